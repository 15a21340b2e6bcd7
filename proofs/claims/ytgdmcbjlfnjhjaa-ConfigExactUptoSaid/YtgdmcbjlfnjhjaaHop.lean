/-
  Operations copied with a mark behind their end: made; held still.
-/
import Derived.Test.YtgdmcbjlfnjhjaaWi
import Derived.Test.YtgdmcbjlfnjhjaaRep
import Derived.Test.YtgdmcbjlfnjhjaaCfp
import Derived.Test.YtgdmcbjlfnjhjaaOw
import Derived.Deep.RegionHeld3
import Derived.Deep.DeepCutAuto
namespace Go.Proofs.Ytgdmcbjlfnjhjaa
open Go.RowKit Wm Mm
set_option linter.unusedVariables false
set_option linter.unusedSimpArgs false

abbrev rowQ (o : OpP) : List Value := [.int .i64 o.kind, .int .i64 o.node]
theorem rowQ_len (o : OpP) : (rowQ o).length = 2 := rfl
theorem rowQ_one (o : OpP) : ∀ u ∈ rowQ o, u.oneCell' = true := by
  intro u hu
  simp at hu
  rcases hu with rfl | rfl <;> rfl
theorem info_opQ : (Try.prog.info? 44).map (fun i => (i.zero, i.size, i.bytes)) = some (some (.agg #[.int .i64 0, .int .i64 0]), 2, 16) := by kernel_rfl
theorem rowQ_at : ∀ (l : List OpP) (k : Nat) (hk : k < l.length), (l.flatMap rowQ)[k * 2]? = some (.int .i64 l[k].kind) ∧ (l.flatMap rowQ)[k * 2 + 1]? = some (.int .i64 l[k].node)
  | a :: r, 0, _ => ⟨rfl, rfl⟩
  | a :: r, k + 1, h => by
    have ih := rowQ_at r k (by simpa using h)
    rw [List.flatMap_cons, show (k + 1) * 2 = k * 2 + 1 + 1 from by omega]
    exact ih
abbrev markO : OpP := ⟨99, 0⟩
/-- a copy of operations, with a mark behind its end -/
def HeldO (S : Nat) (w : World) (v : Value) (l : List OpP) : Prop :=
  ∃ a c, v = .slice a l.length c ∧ w.ownsRow S 44 2 (.slice a (l.length + 1) c) (l.length + 1) ((l ++ [markO]).flatMap rowQ)
theorem HeldO.below {S : Nat} {w w' : World} {v : Value} {l : List OpP} (h : HeldO S w v l) (hb : Below w.heap.size w w') : HeldO S w' v l := by
  obtain ⟨a, c, rfl, ho⟩ := h
  exact ⟨a, c, rfl, own_below ho hb⟩
theorem HeldO.cells {S : Nat} {w : World} {a : Option Addr} {n c : Nat} {l : List OpP} (h : HeldO S w (.slice a n c) l) :
    ∃ g, a = some ⟨g, 0, none⟩ ∧ n = l.length ∧ l.length + 1 ≤ c ∧ w.cell? ⟨g, l.length * 2, none⟩ = some (.int .i64 99) ∧ ∀ j (hj : j < l.length), w.cell? ⟨g, j * 2, none⟩ = some (.int .i64 l[j].kind) ∧ w.cell? ⟨g, j * 2 + 1, none⟩ = some (.int .i64 l[j].node) := by
  obtain ⟨a', c', he, ho⟩ := h
  injection he with e1 e2 e3
  subst e1; subst e2; subst e3
  rcases ho.2 with ⟨_, h0⟩ | ⟨g, cap, cur, he, _, _, h1, _⟩
  · omega
  · injection he with e1 e2 e3
    subst e1; subst e3
    have key : ∀ j (hj : j < (l ++ [markO]).length), w.cell? ⟨g, j * 2, none⟩ = some (.int .i64 (l ++ [markO])[j].kind) ∧ w.cell? ⟨g, j * 2 + 1, none⟩ = some (.int .i64 (l ++ [markO])[j].node) := fun j hj =>
      ⟨own_cell ho (rowQ_at _ j hj).1, own_cell ho (rowQ_at _ j hj).2⟩
    refine ⟨g, rfl, rfl, h1, ?_, fun j hj => ?_⟩
    · have := (key l.length (by simp)).1
      simpa using this
    · have := key j (by simp; omega)
      simpa [List.getElem_append_left hj] using this
set_option maxHeartbeats 1000000 in
theorem opsOf_law (v : Value) (l : List OpP) (F : Nat → Prop) (w : World) (h : Sl 2 (Plain rowQ) F w v l) (hn : l.length ≤ 1099511627776) :
    Calls Try.prog 44 #[v] w fun e w' => ∃ v', e = .returned v' ∧ HeldO w.heap.size w' v' l ∧ Below w.heap.size w w' := by
  obtain ⟨post, HP⟩ := hide (fun (e : Ending) (w' : World) => ∃ v', e = .returned v' ∧ HeldO w.heap.size w' v' l ∧ Below w.heap.size w w')
  rw [HP.out]
  obtain ⟨ao, cap, rfl, _, _⟩ := h.slice
  have Hs := Lib.hid (src_sl (P := Try.prog) (tx := 42) rowQ Try.underlying42 (by decide) rowQ_len rowQ_one h)
  have Hn := Lib.hid hn
  clear h hn
  go_enter Try.func44, Try.ntmps44
  go_wp2_with (at_builtin; refine wpList_append_src rfl _ _ 42 42 rfl w.heap.size 44 _ 2 16 Try.underlying42 info_opQ rfl _ 0 [] rfl (World.ownsRow_nil _ _ _ _) _ _ _ rfl Hs.out (by have := Hn.out; unfold maxLen; omega) (by have := Hn.out; omega) (Nat.le_refl _) ?_)
  intro v1 w1 ho1 hg1
  try simp only [Nat.zero_add, List.nil_append] at ho1
  have Hb1 : Hid (Below w.heap.size w w1) := below_own (World.ownsRow_nil w w.heap.size 44 2) hg1 (Nat.le_refl _) (Nat.le_refl _)
  have HSz : Hid (w.heap.size ≤ w1.heap.size) := Hb1.out.size
  have Ho1 := Lib.hid ho1
  obtain ⟨a1, c1, rfl⟩ := owns_slice ho1
  clear ho1 hg1
  go_wp2_with (at_builtin; refine wpList_push rfl _ _ 42 rfl w.heap.size 44 _ 2 16 Try.underlying42 info_opQ rfl (by decide) _ _ _ rfl Ho1.out _ rfl rfl (by intro u hu; simp at hu; rcases hu with rfl | rfl <;> rfl) (by have := Hn.out; unfold maxLen; omega) (by have := Hn.out; omega) HSz.out ?_)
  intro v2 w2 ho2 hg2
  obtain ⟨a2, c2, rfl⟩ := owns_slice ho2
  have Hb2 : Hid (Below w.heap.size w w2) := Hb1.out.trans (below_own Ho1.out hg2 (Nat.le_refl _) HSz.out)
  have HH : Hid (HeldO w.heap.size w2 (.slice a2 l.length c2) l) := ⟨a2, c2, rfl, by rw [List.flatMap_append]; exact ho2⟩
  have hcap : l.length + 1 ≤ c2 := by
    rcases ho2.2 with ⟨h, h0⟩ | ⟨g, cap, cur, h, _, _, h1, _⟩
    · injection h with _ e2 e3; omega
    · injection h with _ e2 e3; omega
  have hlc : l.length ≤ c2 := by omega
  have Hp : Hid (post (.returned (.slice a2 l.length c2)) w2) := by
    show post _ _
    rw [← HP.out]; exact ⟨_, rfl, HH.out, Hb2.out⟩
  clear ho2 hg2
  go_wp2_with fail
  first | exact Hp.out | (go_ret; exact Hp.out)
set_option maxHeartbeats 2000000 in
theorem heldOps_law (v u : Value) (S : Nat) (l : List OpP) (F : Nat → Prop) (w : World) (hv : HeldO S w v l) (hu : Sl 2 (Plain rowQ) F w u l) (hn : l.length ≤ 1099511627776) :
    Calls Try.prog 46 #[v, u] w fun e w' => e = .returned (.bool true) ∧ Below w.heap.size w w' := by
  obtain ⟨post, HP⟩ := hide (fun (e : Ending) (w' : World) => e = .returned (.bool true) ∧ Below w.heap.size w w')
  rw [HP.out]
  obtain ⟨a, c, rfl, _⟩ := id hv
  obtain ⟨uo, uc, rfl, _, _⟩ := hu.slice
  have Hv : Hid (∀ w', Below w.heap.size w w' → HeldO S w' (.slice a l.length c) l) := fun w' h => hv.below h
  have Hu : Hid (∀ w', Below w.heap.size w w' → Sl 2 (Plain rowQ) F w' (.slice uo l.length uc) l) := fun w' h => hu.frame (Plain.good _) (Agree.below h)
  obtain ⟨g, rfl, _, hc, cm, _⟩ := hv.cells
  have hlc : l.length ≤ c := by omega
  have b1 : (l.length : Int) + 1 ≤ (c : Int) := by omega
  have z0 : ((l.length : Int) == (l.length : Int)) = true := beq_self_eq_true _
  clear hv hu
  go_enter Try.func46, Try.ntmps46
  go_wp2_with fail
  go_loopw [5] (fun i wr => ∃ k : Nat, i = .int .i64 (k : Int) ∧ k ≤ l.length ∧ Hid (Below w.heap.size w wr)) (fun i _ => l.length - (intOf i).toNat)
  case atStart => exact ⟨0, rfl, Nat.zero_le _, by first | exact Below.refl _ _ | exact (Below.refl _ _).drew | exact below_drewN (Below.refl _ _) _⟩
  case round =>
    obtain ⟨k, rfl, hk, HB⟩ := hrel
    by_cases hlt : k < l.length
    · obtain ⟨g', he, _, _, _, hcs⟩ := (Hv.out _ HB.out).cells
      injection he with he
      injection he with he
      subst he
      obtain ⟨p0, p1⟩ := hcs k hlt
      obtain ⟨b, off, us, rfl, _, _, hus, hcu⟩ := (Hu.out _ HB.out).at hlt
      have hus' : us = rowQ l[k] := hus
      subst hus'
      have q0 := hcu 0 _ rfl
      have q1 := hcu 1 _ rfl
      rw [Nat.add_zero] at q0
      obtain ⟨o, ho⟩ := hide l[k]
      rw [ho.out] at p0 p1 q0 q1
      have i1 : decide ((k : Int) < (l.length : Int)) = true := decide_eq_true (by omega)
      have hk1 : k + 1 ≤ 1099511627777 := by omega
      clear hcs hcu hus cm
      go_upto_region 6 with fail
      go_region
      all_goals
        go_wp2_with fail
        go_roundw
        case rel => exact ⟨k + 1, by go_num, by omega, by first | exact HB.out | exact HB.out.drew | exact below_drewN HB.out _⟩
        case measure => simp [intOf]; omega
    · have Hq : Hid (post (.returned (.bool true)) wr) := by
        show post _ _
        rw [← HP.out]; exact ⟨rfl, HB.out⟩
      have t0 : decide (k < l.length) = false := decide_eq_false hlt
      clear hlt
      go_wp2_with fail
      first | exact Hq.out | (go_ret; exact Hq.out)
end Go.Proofs.Ytgdmcbjlfnjhjaa
