/-
  Configurations and operations: copies held still; configurations written over.
-/
import Derived.Test.YtgdmcbjlfnjhjaaHel
import Derived.Test.YtgdmcbjlfnjhjaaRep
import Derived.Test.YtgdmcbjlfnjhjaaCfp
import Derived.Test.YtgdmcbjlfnjhjaaOw
namespace Go.Proofs.Ytgdmcbjlfnjhjaa
open Go.RowKit Wm Mm
set_option linter.unusedVariables false
set_option linter.unusedSimpArgs false

set_option maxHeartbeats 1000000 in
theorem heldConfig_law (a b d a' b' d' : Value) (S : Nat) (c : Conf) (w : World) (hx : Config3H S w a b d c) (hc : Config3 w a' b' d' c) (h1 : c.v.length ≤ 1099511627776) (h2 : c.n.length ≤ 1099511627776) (h3 : c.l.length ≤ 1099511627776) :
    Calls Try.prog 37 #[.agg #[a, b, d], .agg #[a', b', d']] w fun e w' => e = .returned (.bool true) ∧ Below w.heap.size w w' := by
  obtain ⟨post, HP⟩ := hide (fun (e : Ending) (w' : World) => e = .returned (.bool true) ∧ Below w.heap.size w w')
  rw [HP.out]
  obtain ⟨W, hW⟩ := hide ((w.alloc (.cells #[a, b, d] 25)).alloc (.cells #[a', b', d'] 25))
  have hx0 : W.heap[w.heap.size]? = some (.cells #[a, b, d] 25 (0, 0)) := by rw [← hW.out]; exact (hp_past _ _ (by simp)).trans (hp_at _ _ rfl)
  have hy0 : W.heap[w.heap.size + 1]? = some (.cells #[a', b', d'] 25 (0, 0)) := by rw [← hW.out]; exact hp_at _ _ (by simp)
  have hb : Below w.heap.size w W := by rw [← hW.out]; exact ((Below.refl _ _).alloc (Nat.le_refl _) _).alloc (by simp) _
  have HX : Hid (∀ w', Below W.heap.size W w' → Config3H S w' a b d c) := fun w' h => hx.below (hb.trans (h.mono hb.size))
  have HC : Hid (∀ w', Below W.heap.size W w' → Config3 w' a' b' d' c) := fun w' h => hc.mono (hb.trans (h.mono hb.size))
  have Hp : Hid (∀ w', Below W.heap.size W w' → post (.returned (.bool true)) w') := by
    show ∀ w', _ → _
    intro w' h; rw [← HP.out]; exact ⟨rfl, hb.trans (h.mono hb.size)⟩
  obtain ⟨B, hB⟩ := hide w.heap.size
  rw [hB.out] at hx0 hy0
  have HB : Hid (∀ w', Below W.heap.size W w' → w'.heap[B]? = some (.cells #[a, b, d] 25 (0, 0)) ∧ w'.heap[B + 1]? = some (.cells #[a', b', d'] 25 (0, 0))) := fun w' h => ⟨(h.block B (lt_of_block hx0)).trans hx0, (h.block (B + 1) (lt_of_block hy0)).trans hy0⟩
  clear hx hc hb hx0 hy0
  have H0 : Hid (Below W.heap.size W W) := Below.refl _ _
  have x0 := HB.out _ H0.out
  have c0 := cell_n x0.1 0 (v := a) rfl
  have e0 := cell_n x0.2 0 (v := a') rfl
  have K := Lib.hid (heldInts_law a a' S c.v W (HX.out _ H0.out).v (HC.out _ H0.out).v h1)
  clear x0
  go_enter Try.func37, Try.ntmps37
  go_upto_region 1 with fail
  rw [hW.out, hB.out]
  go_wp2_with fail
  refine K.out.mono ?_
  rintro e w1 ⟨rfl, hb1⟩
  have H1 := Lib.hid hb1
  clear hb1 c0 e0 K
  have x0 := HB.out _ H1.out
  have c1 := cell_n x0.1 1 (v := b) rfl
  have e1 := cell_n x0.2 1 (v := b') rfl
  have K := Lib.hid (heldInts_law b b' S c.n w1 (HX.out _ H1.out).n (HC.out _ H1.out).n h2)
  clear x0
  go_wp2_with fail
  refine K.out.mono ?_
  rintro e w2 ⟨rfl, hb2⟩
  have H2 := Lib.hid (H1.out.trans (hb2.mono H1.out.size))
  clear hb2 c1 e1 K
  have x0 := HB.out _ H2.out
  have c2 := cell_n x0.1 2 (v := d) rfl
  have e2 := cell_n x0.2 2 (v := d') rfl
  have K := Lib.hid (heldInts_law d d' S c.l w2 (HX.out _ H2.out).l (HC.out _ H2.out).l h3)
  clear x0
  go_wp2_with fail
  refine K.out.mono ?_
  rintro e w3 ⟨rfl, hb3⟩
  have Hq := Lib.hid (Hp.out _ (H2.out.trans (hb3.mono H2.out.size)))
  clear hb3 c2 e2 K
  go_wp2_with fail
  first | exact Hq.out | (go_ret; exact Hq.out)
/-- all blocks that hold no ints are as they were -/
def KeepO (w w' : World) : Prop := ∀ (g : Nat) (cur : Array Value) (e : TypeId) (fr : Nat × Nat), w.heap[g]? = some (Obj.cells cur e fr) → e ≠ 3 → w'.heap[g]? = some (Obj.cells cur e fr)
theorem KeepO.trans {a b c : World} (h : KeepO a b) (k : KeepO b c) : KeepO a c := fun g cur e fr hg he => k g cur e fr (h g cur e fr hg he) he
theorem KeepO.below {w w' : World} (h : Below w.heap.size w w') : KeepO w w' := fun g cur e fr hg _ => (h.block g (lt_of_block hg)).trans hg
theorem WI.keepO {S : Nat} {w w' : World} {v : Value} (h : WI S w v) (hg : w.grownBy w' v.ownBlock) : KeepO w w' := by
  intro k cur e fr hk he
  refine (hg.block k (lt_of_block hk) (fun e1 => ?_)).trans hk
  rcases h with rfl | ⟨g, n, cap, cur', rfl, hb, hh, _⟩
  · cases e1
  · injection e1 with e2
    subst e2
    have := hk.symm.trans hh
    injection this with h1
    injection h1 with h2 h3
    exact he h3
set_option maxHeartbeats 1000000 in
theorem over_config (a b d : Value) (S : Nat) (w : World) (ha : WI S w a) (hb : WI S w b) (hd : WI S w d) (hS : S ≤ w.heap.size) (na : ∀ p n c, a = .slice p n c → n ≤ 1099511627776) (nb : ∀ p n c, b = .slice p n c → n ≤ 1099511627776) (nd : ∀ p n c, d = .slice p n c → n ≤ 1099511627776) :
    Calls Try.prog 57 #[.agg #[a, b, d]] w fun e w' => e = .returned (.tuple #[]) ∧ Below S w w' ∧ KeepSz w w' ∧ KeepO w w' := by
  obtain ⟨post, HP⟩ := hide (fun (e : Ending) (w' : World) => e = .returned (.tuple #[]) ∧ Below S w w' ∧ KeepSz w w' ∧ KeepO w w')
  rw [HP.out]
  obtain ⟨W, hW⟩ := hide (w.alloc (.cells #[a, b, d] 25))
  have hx : W.heap[w.heap.size]? = some (.cells #[a, b, d] 25 (0, 0)) := by rw [← hW.out]; exact hp_at _ _ rfl
  have hbW : Below w.heap.size w W := by rw [← hW.out]; exact (Below.refl _ _).alloc (Nat.le_refl _) _
  have HbS : Hid (Below S w W) := hbW.mono hS
  have HK : Hid (KeepSz w W) := KeepSz.below hbW
  have HSW : Hid (S ≤ W.heap.size) := Nat.le_trans hS hbW.size
  have nB : ∀ {v : Value}, WI S w v → v.ownBlock ≠ some w.heap.size := fun h e => Nat.lt_irrefl _ (h.blk _ e)
  have HnA := Lib.hid (nB ha)
  have HnB := Lib.hid (nB hb)
  have HO0 : Hid (KeepO w W) := KeepO.below hbW
  have Hp : Hid (∀ w', Below S W w' → KeepSz W w' → KeepO W w' → post (.returned (.tuple #[])) w') := by
    show ∀ w', _ → _ → _ → _
    intro w' h1 h2 h3; rw [← HP.out]; exact ⟨rfl, HbS.out.trans h1, HK.out.trans h2, HO0.out.trans h3⟩
  have Ha := Lib.hid (ha.keep HK.out)
  have Hb := Lib.hid (hb.keep HK.out)
  have Hd := Lib.hid (hd.keep HK.out)
  obtain ⟨B, hB⟩ := hide w.heap.size
  rw [hB.out] at hx HnA HnB
  have c0 := cell_n hx 0 (v := a) rfl
  have K := Lib.hid (over_ints a S W Ha.out HSW.out na)
  have Hx := Lib.hid hx
  clear ha hb hd hbW hx nB
  go_enter Try.func57, Try.ntmps57
  go_upto_region 1 with fail
  rw [hW.out, hB.out]
  go_wp2_with fail
  refine K.out.mono ?_
  rintro e w1 ⟨rfl, hg1, hk1⟩
  have H1 := Lib.hid (Ha.out.below hg1 HSW.out)
  have Hk1 := Lib.hid hk1
  have HO1 := Lib.hid (Ha.out.keepO hg1)
  have Hx1 : Hid (w1.heap[B]? = some (.cells #[a, b, d] 25 (0, 0))) := (hg1.block B (lt_of_block Hx.out) (fun e => HnA.out e.symm)).trans Hx.out
  have HS1 := Nat.le_trans HSW.out H1.out.size
  clear hg1 hk1 c0 K
  have c1 := cell_n Hx1.out 1 (v := b) rfl
  have K := Lib.hid (over_ints b S w1 (Hb.out.keep Hk1.out) HS1 nb)
  go_wp2_with fail
  refine K.out.mono ?_
  rintro e w2 ⟨rfl, hg2, hk2⟩
  have H2 := Lib.hid (H1.out.trans ((Hb.out.keep Hk1.out).below hg2 HS1))
  have Hk2 := Lib.hid (Hk1.out.trans hk2)
  have HO2 := Lib.hid (HO1.out.trans ((Hb.out.keep Hk1.out).keepO hg2))
  have Hx2 : Hid (w2.heap[B]? = some (.cells #[a, b, d] 25 (0, 0))) := (hg2.block B (lt_of_block Hx1.out) (fun e => HnB.out e.symm)).trans Hx1.out
  have HS2 := Nat.le_trans HSW.out H2.out.size
  clear hg2 hk2 c1 K
  have c2 := cell_n Hx2.out 2 (v := d) rfl
  have K := Lib.hid (over_ints d S w2 (Hd.out.keep Hk2.out) HS2 nd)
  go_wp2_with fail
  refine K.out.mono ?_
  rintro e w3 ⟨rfl, hg3, hk3⟩
  have Hq := Lib.hid (Hp.out _ (H2.out.trans ((Hd.out.keep Hk2.out).below hg3 HS2)) (Hk2.out.trans hk3) (HO2.out.trans ((Hd.out.keep Hk2.out).keepO hg3)))
  clear hg3 hk3 c2 K
  go_wp2_with fail
  first | exact Hq.out | (go_ret; exact Hq.out) | (go_end0; exact Hq.out)
end Go.Proofs.Ytgdmcbjlfnjhjaa
