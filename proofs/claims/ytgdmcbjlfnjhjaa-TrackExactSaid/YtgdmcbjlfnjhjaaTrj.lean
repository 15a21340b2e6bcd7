/-
  What a leader knows: who was heard of: the closures of Alive and of Round; those of whom it is so; Alive, both sides. What a leader knows, the reference's side: Alive; Ack. What a leader knows: Round: the closure; those of whom it is so; the plain law; a clone. What a leader knows: track.Round. What a leader knows: ref.Round.
-/
import Derived.Test.YtgdmcbjlfnjhjaaTrk
import Derived.Test.YtgdmcbjlfnjhjaaCrf
import Derived.Deep.RegionHeld3
import Derived.Deep.DeepCutAuto
import Derived.Test.YtgdmcbjlfnjhjaaWo
namespace Go.Proofs.Ytgdmcbjlfnjhjaa
open Go.RowKit Wm Mm
set_option linter.unusedVariables false
set_option linter.unusedSimpArgs false

/-- those of whom something is so -/
def haveBy (f : ProgP → Bool) (l : List ProgP) : List Int := (l.filter f).map (·.node)
theorem haveBy_len (f : ProgP → Bool) (l : List ProgP) : (haveBy f l).length ≤ l.length := by
  unfold haveBy; rw [List.length_map]; exact List.length_filter_le _ _
theorem haveBy_snoc (f : ProgP → Bool) {l : List ProgP} {k : Nat} (h : k < l.length) : haveBy f (l.take (k + 1)) = haveBy f (l.take k) ++ (if f l[k] = true then [l[k].node] else []) := by
  unfold haveBy
  rw [List.take_add_one, List.getElem?_eq_getElem h, List.filter_append, List.map_append]
  congr 1
  by_cases hp : f l[k] = true
  · rw [if_pos hp]; simp [hp]
  · rw [if_neg hp]; simp [hp]
def aliveB (self : Int) (p : ProgP) : Bool := (p.node == self) || p.active
def heardB (self h : Int) (p : ProgP) : Bool := (p.node == self) || decide (h ≤ p.heard)
set_option maxHeartbeats 1000000 in
theorem alive1_law (p : ProgP) (self : Int) (I : Nat) (w : World) (hI : w.heap[I]? = some (blkI self)) :
    Calls Try.prog 79 #[.agg (arrG p), .pointer (some ⟨I, 0, none⟩)] w fun e w' => e = .returned (.bool (aliveB self p)) ∧ Below w.heap.size w w' := by
  obtain ⟨V, hV⟩ := hide (w.alloc (.cells (arrG p) 27))
  obtain ⟨C, hC⟩ := hide w.heap.size
  have h1 : V.heap[C]? = some (.cells (arrG p) 27 (0, 0)) := by rw [← hV.out, ← hC.out]; exact hp_at _ _ rfl
  have h2 : V.heap[I]? = some (blkI self) := by rw [← hV.out]; exact (hp_past _ _ (by have := lt_of_block hI; omega)).trans hI
  have c0 := cell_n h1 0 (v := .int .i64 p.node) rfl
  have c4 := cell_n h1 4 (v := .bool p.active) rfl
  have c5 := cell_n h1 5 (v := .int .i64 p.heard) rfl
  have c1 := cell_n h2 0 (v := .int .i64 self) rfl
  have hb : Hid (Below w.heap.size w V) := by show Below _ _ _; rw [← hV.out]; exact (Below.refl _ _).alloc (Nat.le_refl _) _
  obtain ⟨z1, hz1⟩ := hide (p.node == self)
  obtain ⟨z2, hz2⟩ := hide (p.active)
  have e1 := hz1.out
  have e2 := hz2.out
  obtain ⟨post, HP⟩ := hide (fun (e : Ending) (w' : World) => e = .returned (.bool (aliveB self p)) ∧ Below w.heap.size w w')
  rw [HP.out]
  have Hp : Hid (post (.returned (.bool (z1 || z2))) V) := by
    show post _ _
    rw [← HP.out]; exact ⟨by show _ = Ending.returned (Value.bool ((p.node == self) || p.active)); rw [e1, e2], hb.out⟩
  clear hI h1 h2 hz1 hz2
  go_enter Try.func79, Try.ntmps79
  go_upto_region 1 with fail
  rw [hV.out, hC.out]
  cases z1 <;> cases z2
  all_goals
    go_wp2_with fail
    first | exact Hp.out | (go_ret; exact Hp.out)
set_option maxHeartbeats 2000000 in
theorem anodes_law (self : Int) (I : Nat) (v : Value) (l : List ProgP) (F : Nat → Prop) (w : World) (hI : w.heap[I]? = some (blkI self)) (h : Prgs F w v l) (hl : l.length ≤ 1048576) :
    Calls Try.prog 61 #[v, .func (.func 79) #[] #[.pointer (some ⟨I, 0, none⟩)]] w fun e w' => ∃ v', e = .returned v' ∧ OwnI w.heap.size w' v' (haveBy (aliveB self) l) ∧ Below w.heap.size w w' := by
  obtain ⟨post, HP⟩ := hide (fun (e : Ending) (w' : World) => ∃ v', e = .returned v' ∧ OwnI w.heap.size w' v' (haveBy (aliveB self) l) ∧ Below w.heap.size w w')
  rw [HP.out]
  obtain ⟨ao, cap, rfl, _, _⟩ := h.slice
  have Hh : Hid (∀ w', Below w.heap.size w w' → Prgs F w' (.slice ao l.length cap) l) := fun w' hb => h.frame (Plain.good _) (Agree.below hb)
  have HI : Hid (∀ w', Below w.heap.size w w' → w'.heap[I]? = some (blkI self)) := fun w' hb => (hb.block I (lt_of_block hI)).trans hI
  obtain ⟨S, hS⟩ := hide w.heap.size
  rw [hS.out] at Hh HI HP
  have HSw : Hid (S ≤ w.heap.size) := by show _ ≤ _; rw [hS.out]; exact Nat.le_refl _
  clear h hI
  go_enter Try.func61, Try.ntmps61
  go_wp2
  go_loopw [4, 9] (fun v4 i9 wr => ∃ k : Nat, i9 = .int .i64 k ∧ k ≤ l.length ∧ Hid (OwnI S wr v4 (haveBy (aliveB self) (l.take k))) ∧ Hid (Below S w wr)) (fun _ i _ => l.length - (intOf i).toNat)
  case atStart => exact ⟨0, rfl, Nat.zero_le _, World.ownsRow_nil _ _ _ _, Below.refl _ _⟩
  case round =>
    obtain ⟨k, rfl, hk, Ho, Hb⟩ := hrel
    by_cases hlt : k < l.length
    · obtain ⟨b, off, rfl, m0, m1, m2, m3, m4, m5⟩ := (Hh.out _ Hb.out).six hlt
      have Hs := Lib.hid (haveBy_snoc (aliveB self) hlt)
      have hlen := haveBy_len (aliveB self) (l.take k)
      rw [List.length_take] at hlen
      obtain ⟨p, hp⟩ := hide l[k]
      rw [hp.out] at m0 m1 m2 m3 m4 m5 Hs
      obtain ⟨V, hV⟩ := hide (wr.alloc (.cells (arrG p) 27))
      obtain ⟨C, hC⟩ := hide wr.heap.size
      have hx : V.heap[C]? = some (.cells (arrG p) 27 (0, 0)) := by rw [← hV.out, ← hC.out]; exact hp_at _ _ rfl
      have hbV : Below S w V := by rw [← hV.out]; exact Hb.out.alloc (Nat.le_trans HSw.out Hb.out.size) _
      have Hx : Hid (∀ w', Below V.heap.size V w' → w'.heap[C]? = some (.cells (arrG p) 27 (0, 0)) ∧ Hid (Below S w w')) := fun w' h => ⟨(h.block C (lt_of_block hx)).trans hx, hbV.trans (h.mono (Nat.le_trans HSw.out hbV.size))⟩
      obtain ⟨L, hL⟩ := hide (haveBy (aliveB self) (l.take k))
      rw [hL.out] at Ho Hs hlen
      have HoV : Hid (OwnI S V u4 L) := by show World.ownsRow _ _ _ _ _ _ _; rw [← hV.out]; exact Ho.out.alloc _
      have HC1 := Lib.hid (alive1_law p self I V (HI.out V hbV))
      obtain ⟨z, hz⟩ := hide (aliveB self p)
      rw [hz.out] at HC1 Hs
      have c0 := cell_n hx 0 (v := .int .i64 p.node) rfl
      have c1 := cell_n hx 1 (v := .int .i64 p.mtch) rfl
      have c2 := cell_n hx 2 (v := .int .i64 p.nxt) rfl
      have c3 := cell_n hx 3 (v := .int .i64 p.state) rfl
      have c4 := cell_n hx 4 (v := .bool p.active) rfl
      have c5 := cell_n hx 5 (v := .int .i64 p.heard) rfl
      have hk1 : k + 1 ≤ 1048577 := by omega
      clear hx hbV
      go_upto_region 4 with fail
      rw [hV.out, hC.out]
      go_wp2_with fail
      refine HC1.out.mono ?_
      rintro e w2 ⟨rfl, hb2⟩
      have Ho2 : Hid (OwnI S w2 u4 L) := own_below HoV.out hb2
      have x2 := Hx.out _ hb2
      have Hb2 := x2.2
      have d0 := cell_n x2.1 0 (v := .int .i64 p.node) rfl
      have HS2 : Hid (S ≤ w2.heap.size) := Nat.le_trans HSw.out Hb2.out.size
      clear hb2 x2 c0 c1 c2 c3 c4 c5 m0 m1 m2 m3 m4 m5
      cases z with
      | false =>
        have Hs2 : Hid (haveBy (aliveB self) (l.take (k + 1)) = L) := by show _ = _; rw [Hs.out]; simp
        go_wp2_with fail
        go_roundw
        case rel => exact ⟨k + 1, by go_num, hlt, by rw [Hs2.out]; exact Ho2, Hb2⟩
        case measure => simp [intOf]; omega
      | true =>
        have Hs2 : Hid (haveBy (aliveB self) (l.take (k + 1)) = L ++ [p.node]) := by show _ = _; rw [Hs.out]; simp
        obtain ⟨a4, n4, rfl⟩ := owns_slice Ho2.out
        go_wp2_with (at_builtin; refine wpList_push rfl _ _ 22 rfl S 3 (.int .i64 0) 1 8 Try.underlying22 info_intU rfl (by decide) _ _ _ rfl Ho2.out _ rfl rfl (by intro u hu; simp at hu; subst hu; rfl) (by unfold maxLen; omega) (by omega) HS2.out ?_)
        intro v' w3 ho hg
        have Ho3 : Hid (OwnI S w3 v' (L ++ [p.node])) := by
          show World.ownsRow _ _ _ _ _ _ _
          rw [List.map_append, List.length_append]; exact ho
        have Hb3 : Hid (Below S w w3) := Hb2.out.trans (below_own Ho2.out hg (Nat.le_refl _) HS2.out)
        clear ho hg d0
        go_wp2_with fail
        go_roundw
        case rel => exact ⟨k + 1, by go_num, hlt, by rw [Hs2.out]; exact Ho3, Hb3⟩
        case measure => simp [intOf]; omega
    · have Hp : Hid (post (.returned u4) wr) := by
        show post _ _
        rw [← HP.out]
        refine ⟨_, rfl, ?_, Hb.out⟩
        have := Ho.out
        rw [List.take_of_length_le (by omega)] at this
        exact this
      have t0 : decide (k < l.length) = false := decide_eq_false hlt
      clear hlt
      go_wp2_with fail
      first | exact Hp.out | (go_ret; exact Hp.out)
set_option maxHeartbeats 2000000 in
theorem alive_law (a b d lv : Value) (c : Conf) (l : List ProgP) (F : Nat → Prop) (self : Int) (w : World) (hc : Config3 w a b d c) (h1 : c.v.length ≤ 1048576) (h2 : c.n.length ≤ 1048576) (hp : Prgs F w lv l) (hl : l.length ≤ 1048576) :
    Calls Try.prog 31 #[.agg #[a, b, d], lv, .int .i64 self] w fun e w' => e = .returned (.bool (quorumB c (haveBy (aliveB self) l))) ∧ Below w.heap.size w w' := by
  obtain ⟨q, hq⟩ := hide (quorumB c (haveBy (aliveB self) l))
  rw [hq.out]
  obtain ⟨post, HP⟩ := hide (fun (e : Ending) (w' : World) => e = .returned (.bool q) ∧ Below w.heap.size w w')
  rw [HP.out]
  obtain ⟨W, hW⟩ := hide ((w.alloc (.cells #[a, b, d] 25)).alloc (.cells #[.int .i64 self] 3))
  have hx : W.heap[w.heap.size]? = some (.cells #[a, b, d] 25 (0, 0)) := by rw [← hW.out]; exact (hp_past _ _ (by simp)).trans (hp_at _ _ rfl)
  have hy : W.heap[w.heap.size + 1]? = some (blkI self) := by rw [← hW.out]; exact hp_at _ _ (by simp)
  have hb : Below w.heap.size w W := by rw [← hW.out]; exact ((Below.refl _ _).alloc (Nat.le_refl _) _).alloc (by simp) _
  have HC : Hid (∀ w', Below W.heap.size W w' → Config3 w' a b d c) := fun w' h => hc.mono (hb.trans (h.mono hb.size))
  have HG : Hid (∀ w', Below W.heap.size W w' → Prgs F w' lv l) := fun w' h => hp.frame (Plain.good _) (Agree.below (hb.trans (h.mono hb.size)))
  have HB0 : Hid (∀ w', Below W.heap.size W w' → Below w.heap.size w w') := fun w' h => hb.trans (h.mono hb.size)
  obtain ⟨B, hB⟩ := hide w.heap.size
  rw [hB.out] at hx hy
  have HX : Hid (∀ w', Below W.heap.size W w' → w'.heap[B]? = some (.cells #[a, b, d] 25 (0, 0)) ∧ w'.heap[B + 1]? = some (blkI self)) := fun w' h => ⟨(h.block _ (lt_of_block hx)).trans hx, (h.block _ (lt_of_block hy)).trans hy⟩
  have H0 : Hid (Below W.heap.size W W.drew) := (Below.refl _ _).drew
  have y0 := (HX.out _ H0.out).1
  have a0 : W.drew.cell? ⟨B, 0, none⟩ = some a := cell_n y0 0 rfl
  have a1 : W.drew.cell? ⟨B, 1, none⟩ = some b := cell_n y0 1 rfl
  have a2 : W.drew.cell? ⟨B, 2, none⟩ = some d := cell_n y0 2 rfl
  have HTn := Lib.hid (anodes_law self (B + 1) lv l F W.drew (HX.out _ H0.out).2 (HG.out _ H0.out) hl)
  have HQn : Hid (∀ v' w', Below W.heap.size W w' → Ints w' v' (haveBy (aliveB self) l) → Calls Try.prog 14 #[.agg #[a, b, d], v'] w' fun e w'' => e = .returned (.bool q) ∧ Below w'.heap.size w' w'') := by
    show ∀ v' w', _ → _ → _
    intro v' w' h hv
    rw [← hq.out]
    exact quorum_law a b d v' c _ w' (HC.out _ h) hv (by omega) (by omega)
  clear hx hy hb hc hp y0
  go_enter Try.func31, Try.ntmps31
  go_upto_region 1 with fail
  rw [hW.out, hB.out]
  go_region_held3 (fun w' => w'.cell? ⟨B, 0, none⟩ = some a ∧ w'.cell? ⟨B, 1, none⟩ = some b ∧ w'.cell? ⟨B, 2, none⟩ = some d) (first | with_reducible exact ⟨a0, a1, a2⟩ | go_keep) (first
    | (go_at_call 61; (with_reducible refine HTn.out.mono ?_); rintro e w4 ⟨v4, rfl, ho4, hb4⟩; have H4 := Lib.hid (H0.out.trans (hb4.mono H0.out.size)); have Ho4 := Lib.hid (Ints.of_own ho4); have y4 := (HX.out _ H4.out).1; have a0 : w4.cell? ⟨B, 0, none⟩ = some a := cell_n y4 0 rfl; have a1 : w4.cell? ⟨B, 1, none⟩ = some b := cell_n y4 1 rfl; have a2 : w4.cell? ⟨B, 2, none⟩ = some d := cell_n y4 2 rfl; clear hb4 ho4 y4)
    | (go_at_call 14; (with_reducible refine (HQn.out _ _ H4.out Ho4.out).mono ?_); rintro e w5 ⟨rfl, hb5⟩; have H5 := Lib.hid (H4.out.trans (hb5.mono H4.out.size)); have y4 := (HX.out _ H5.out).1; have a0 : w5.cell? ⟨B, 0, none⟩ = some a := cell_n y4 0 rfl; have a1 : w5.cell? ⟨B, 1, none⟩ = some b := cell_n y4 1 rfl; have a2 : w5.cell? ⟨B, 2, none⟩ = some d := cell_n y4 2 rfl; clear hb5 y4))
  all_goals
    have Hp : Hid (post (.returned (.bool q)) w5) := by
      show post _ _
      rw [← HP.out]; exact ⟨rfl, by rw [hB.out]; exact (by have := HB0.out _ H5.out; rwa [hB.out] at this)⟩
    clear a0 a1 a2
    go_wp2_with fail
    first | exact Hp.out | (go_ret; exact Hp.out)
end Go.Proofs.Ytgdmcbjlfnjhjaa

namespace Go.Proofs.Ytgdmcbjlfnjhjaa
open Go.RowKit Wm Mm
set_option linter.unusedVariables false
set_option linter.unusedSimpArgs false

set_option maxHeartbeats 2000000 in
theorem refAlive_law (a b d lv : Value) (c : Conf) (l : List ProgP) (F : Nat → Prop) (self : Int) (w : World) (hc : Config3 w a b d c) (h1 : c.v.length ≤ 1048576) (h2 : c.n.length ≤ 1048576) (hp : Prgs F w lv l) (hl : l.length ≤ 1048576) :
    Calls Try.prog 32 #[.agg #[a, b, d], lv, .int .i64 self] w fun e w' => e = .returned (.bool (quorumB c (haveBy (aliveB self) l))) ∧ Below w.heap.size w w' := by
  obtain ⟨q, hq⟩ := hide (quorumB c (haveBy (aliveB self) l))
  rw [hq.out]
  obtain ⟨post, HP⟩ := hide (fun (e : Ending) (w' : World) => e = .returned (.bool q) ∧ Below w.heap.size w w')
  rw [HP.out]
  obtain ⟨ao, cap, rfl, _, _⟩ := hp.slice
  obtain ⟨W, hW⟩ := hide (w.alloc (.cells #[a, b, d] 25))
  have hx : W.heap[w.heap.size]? = some (.cells #[a, b, d] 25 (0, 0)) := by rw [← hW.out]; exact hp_at _ _ rfl
  have hb : Below w.heap.size w W := by rw [← hW.out]; exact (Below.refl _ _).alloc (Nat.le_refl _) _
  obtain ⟨S, hS⟩ := hide W.heap.size
  have HC : Hid (∀ w', Below S W w' → Config3 w' a b d c) := by show ∀ w', _ → _; rw [← hS.out]; exact fun w' h => hc.mono (hb.trans (h.mono hb.size))
  have HG : Hid (∀ w', Below S W w' → Prgs F w' (.slice ao l.length cap) l) := by show ∀ w', _ → _; rw [← hS.out]; exact fun w' h => hp.frame (Plain.good _) (Agree.below (hb.trans (h.mono hb.size)))
  have Hp : Hid (∀ w', Below S W w' → post (.returned (.bool q)) w') := by show ∀ w', _ → _; rw [← hS.out, ← HP.out]; exact fun w' h => ⟨rfl, hb.trans (h.mono hb.size)⟩
  obtain ⟨B, hB⟩ := hide w.heap.size
  rw [hB.out] at hx
  have HX : Hid (∀ w', Below S W w' → w'.heap[B]? = some (.cells #[a, b, d] 25 (0, 0))) := by show ∀ w', _ → _; rw [← hS.out]; exact fun w' h => (h.block _ (lt_of_block hx)).trans hx
  have HSW : Hid (S ≤ W.heap.size) := by show _ ≤ _; rw [← hS.out]; exact Nat.le_refl _
  clear hx hb hc hp
  go_enter Try.func32, Try.ntmps32
  go_upto_region 1 with fail
  rw [hW.out, hB.out]
  go_wp2_with fail
  go_loopw [7, 8] (fun v7 i wr => ∃ k : Nat, i = .int .i64 (k : Int) ∧ k ≤ l.length ∧ Hid (OwnJ S wr v7 (haveBy (aliveB self) (l.take k))) ∧ Hid (Below S W wr)) (fun _ i _ => l.length - (intOf i).toNat)
  case atStart => exact ⟨0, rfl, Nat.zero_le _, World.ownsRow_nil _ _ _ _, Below.refl _ _⟩
  case round =>
    obtain ⟨k, rfl, hk, Ho, Hb⟩ := hrel
    by_cases hlt : k < l.length
    · obtain ⟨b', off, rfl, m0, m1, m2, m3, m4, m5⟩ := (HG.out _ Hb.out).six hlt
      have Hs := Lib.hid (haveBy_snoc (aliveB self) hlt)
      have hlen := haveBy_len (aliveB self) (l.take k)
      rw [List.length_take] at hlen
      obtain ⟨p, hp⟩ := hide l[k]
      rw [hp.out] at m0 m4 Hs
      have Hdef : Hid (aliveB self p = ((p.node == self) || p.active)) := rfl
      obtain ⟨L, hL⟩ := hide (haveBy (aliveB self) (l.take k))
      rw [hL.out] at Ho Hs hlen
      obtain ⟨z, hz⟩ := hide (aliveB self p)
      obtain ⟨z1, hz1⟩ := hide (p.node == self)
      obtain ⟨z2, hz2⟩ := hide p.active
      rw [hz.out] at Hs
      rw [hz.out, hz1.out, hz2.out] at Hdef
      rw [hz2.out] at m4
      have e1 := hz1.out
      have HSz : Hid (S ≤ wr.heap.size) := Nat.le_trans HSW.out Hb.out.size
      have hk1 : k + 1 ≤ 1048577 := by omega
      clear m1 m2 m3 m5
      cases z1 <;> cases z2
      all_goals
        have hzz := Hdef.out
        simp only [Bool.or_false, Bool.or_true, Bool.false_or, Bool.true_or] at hzz
        subst hzz
        first
        | (have Hs2 : Hid (haveBy (aliveB self) (l.take (k + 1)) = L ++ [p.node]) := by show _ = _; rw [Hs.out, if_pos rfl]
           obtain ⟨a4, n4, rfl⟩ := owns_slice Ho.out
           go_wp2_with (at_builtin; refine wpList_push rfl _ _ 22 rfl S 3 (.int .i64 0) 1 8 Try.underlying22 info_intJ rfl (by decide) _ _ _ rfl Ho.out _ rfl rfl (by intro u hu; simp at hu; subst hu; rfl) (by unfold maxLen; omega) (by omega) HSz.out ?_)
           intro v' w3 ho hg
           have Ho3 : Hid (OwnJ S w3 v' (haveBy (aliveB self) (l.take (k + 1)))) := by
             show World.ownsRow _ _ _ _ _ _ _
             rw [Hs2.out, List.map_append, List.length_append]; exact ho
           have Hb3 : Hid (Below S W w3) := Hb.out.trans (below_own Ho.out hg (Nat.le_refl _) HSz.out)
           clear ho hg
           go_wp2_with fail
           go_roundw
           case rel => exact ⟨k + 1, by go_num, hlt, Ho3, Hb3⟩
           case measure => simp [intOf]; omega)
        | (have Ho3 : Hid (OwnJ S wr u7 (haveBy (aliveB self) (l.take (k + 1)))) := by
             show World.ownsRow _ _ _ _ _ _ _
             rw [Hs.out, if_neg (by simp), List.append_nil]; exact Ho.out
           go_wp2_with fail
           go_roundw
           case rel => exact ⟨k + 1, by go_num, hlt, Ho3, Hb⟩
           case measure => simp [intOf]; omega)
    · have Hi : Hid (Ints wr u7 (haveBy (aliveB self) l)) := by
        have := Ho.out
        rw [List.take_of_length_le (by omega)] at this
        exact Ints.of_own this
      have KQ := refQuorum_law a b d u7 c _ wr (HC.out _ Hb.out) Hi.out (by omega) (by omega)
      rw [hq.out] at KQ
      have KQ := Lib.hid KQ
      have x0 := HX.out _ Hb.out
      have c0 : wr.cell? ⟨B, 0, none⟩ = some a := cell_n x0 0 rfl
      have c1 : wr.cell? ⟨B, 1, none⟩ = some b := cell_n x0 1 rfl
      have c2 : wr.cell? ⟨B, 2, none⟩ = some d := cell_n x0 2 rfl
      have t0 : decide (k < l.length) = false := decide_eq_false hlt
      clear hlt x0
      go_wp2_with fail
      refine KQ.out.mono ?_
      rintro e w3 ⟨rfl, hb3⟩
      have Hq := Lib.hid (Hp.out _ (Hb.out.trans (hb3.mono (Nat.le_trans HSW.out Hb.out.size))))
      clear hb3 c0 c1 c2
      go_wp2_with fail
      first | exact Hq.out | (go_ret; exact Hq.out)
end Go.Proofs.Ytgdmcbjlfnjhjaa

namespace Go.Proofs.Ytgdmcbjlfnjhjaa
open Go.RowKit Wm Mm
set_option linter.unusedVariables false
set_option linter.unusedSimpArgs false

set_option maxHeartbeats 1000000 in
theorem heard1_law (p : ProgP) (self : Int) (I : Nat) (J : Nat) (p2 : ProgP) (w : World) (hI : w.heap[I]? = some (blkI self)) (hJ : w.heap[J]? = some (.cells (arrG p2) 27 (0, 0))) :
    Calls Try.prog 81 #[.agg (arrG p), .pointer (some ⟨I, 0, none⟩), .pointer (some ⟨J, 0, none⟩)] w fun e w' => e = .returned (.bool (heardB self p2.heard p)) ∧ Below w.heap.size w w' := by
  obtain ⟨V, hV⟩ := hide (w.alloc (.cells (arrG p) 27))
  obtain ⟨C, hC⟩ := hide w.heap.size
  have h1 : V.heap[C]? = some (.cells (arrG p) 27 (0, 0)) := by rw [← hV.out, ← hC.out]; exact hp_at _ _ rfl
  have h2 : V.heap[I]? = some (blkI self) := by rw [← hV.out]; exact (hp_past _ _ (by have := lt_of_block hI; omega)).trans hI
  have c0 := cell_n h1 0 (v := .int .i64 p.node) rfl
  have c4 := cell_n h1 4 (v := .bool p.active) rfl
  have c5 := cell_n h1 5 (v := .int .i64 p.heard) rfl
  have c1 := cell_n h2 0 (v := .int .i64 self) rfl
  have h3 : V.heap[J]? = some (.cells (arrG p2) 27 (0, 0)) := by rw [← hV.out]; exact (hp_past _ _ (by have := lt_of_block hJ; omega)).trans hJ
  have c9 := cell_n h3 5 (v := .int .i64 p2.heard) rfl
  clear hJ h3
  have hb : Hid (Below w.heap.size w V) := by show Below _ _ _; rw [← hV.out]; exact (Below.refl _ _).alloc (Nat.le_refl _) _
  obtain ⟨z1, hz1⟩ := hide (p.node == self)
  obtain ⟨z2, hz2⟩ := hide (decide (p2.heard ≤ p.heard))
  have e1 := hz1.out
  have e2 := hz2.out
  obtain ⟨post, HP⟩ := hide (fun (e : Ending) (w' : World) => e = .returned (.bool (heardB self p2.heard p)) ∧ Below w.heap.size w w')
  rw [HP.out]
  have Hp : Hid (post (.returned (.bool (z1 || z2))) V) := by
    show post _ _
    rw [← HP.out]; exact ⟨by show _ = Ending.returned (Value.bool ((p.node == self) || decide (p2.heard ≤ p.heard))); rw [e1, e2], hb.out⟩
  clear hI h1 h2 hz1 hz2
  go_enter Try.func81, Try.ntmps81
  go_upto_region 1 with fail
  rw [hV.out, hC.out]
  cases z1 <;> cases z2
  all_goals
    go_wp2_with fail
    first | exact Hp.out | (go_ret; exact Hp.out)
set_option maxHeartbeats 2000000 in
theorem hnodes_law (self : Int) (I J : Nat) (p2 : ProgP) (v : Value) (l : List ProgP) (F : Nat → Prop) (w : World) (hI : w.heap[I]? = some (blkI self)) (hJ : w.heap[J]? = some (.cells (arrG p2) 27 (0, 0))) (h : Prgs F w v l) (hl : l.length ≤ 1048576) :
    Calls Try.prog 61 #[v, .func (.func 81) #[] #[.pointer (some ⟨I, 0, none⟩), .pointer (some ⟨J, 0, none⟩)]] w fun e w' => ∃ v', e = .returned v' ∧ OwnI w.heap.size w' v' (haveBy (heardB self p2.heard) l) ∧ Below w.heap.size w w' := by
  obtain ⟨post, HP⟩ := hide (fun (e : Ending) (w' : World) => ∃ v', e = .returned v' ∧ OwnI w.heap.size w' v' (haveBy (heardB self p2.heard) l) ∧ Below w.heap.size w w')
  rw [HP.out]
  obtain ⟨ao, cap, rfl, _, _⟩ := h.slice
  have Hh : Hid (∀ w', Below w.heap.size w w' → Prgs F w' (.slice ao l.length cap) l) := fun w' hb => h.frame (Plain.good _) (Agree.below hb)
  have HI : Hid (∀ w', Below w.heap.size w w' → w'.heap[I]? = some (blkI self)) := fun w' hb => (hb.block I (lt_of_block hI)).trans hI
  have HJ : Hid (∀ w', Below w.heap.size w w' → w'.heap[J]? = some (.cells (arrG p2) 27 (0, 0))) := fun w' hb => (hb.block J (lt_of_block hJ)).trans hJ
  obtain ⟨S, hS⟩ := hide w.heap.size
  rw [hS.out] at Hh HI HJ HP
  have HSw : Hid (S ≤ w.heap.size) := by show _ ≤ _; rw [hS.out]; exact Nat.le_refl _
  clear h hI hJ
  go_enter Try.func61, Try.ntmps61
  go_wp2
  go_loopw [4, 9] (fun v4 i9 wr => ∃ k : Nat, i9 = .int .i64 k ∧ k ≤ l.length ∧ Hid (OwnI S wr v4 (haveBy (heardB self p2.heard) (l.take k))) ∧ Hid (Below S w wr)) (fun _ i _ => l.length - (intOf i).toNat)
  case atStart => exact ⟨0, rfl, Nat.zero_le _, World.ownsRow_nil _ _ _ _, Below.refl _ _⟩
  case round =>
    obtain ⟨k, rfl, hk, Ho, Hb⟩ := hrel
    by_cases hlt : k < l.length
    · obtain ⟨b, off, rfl, m0, m1, m2, m3, m4, m5⟩ := (Hh.out _ Hb.out).six hlt
      have Hs := Lib.hid (haveBy_snoc (heardB self p2.heard) hlt)
      have hlen := haveBy_len (heardB self p2.heard) (l.take k)
      rw [List.length_take] at hlen
      obtain ⟨p, hp⟩ := hide l[k]
      rw [hp.out] at m0 m1 m2 m3 m4 m5 Hs
      obtain ⟨V, hV⟩ := hide (wr.alloc (.cells (arrG p) 27))
      obtain ⟨C, hC⟩ := hide wr.heap.size
      have hx : V.heap[C]? = some (.cells (arrG p) 27 (0, 0)) := by rw [← hV.out, ← hC.out]; exact hp_at _ _ rfl
      have hbV : Below S w V := by rw [← hV.out]; exact Hb.out.alloc (Nat.le_trans HSw.out Hb.out.size) _
      have Hx : Hid (∀ w', Below V.heap.size V w' → w'.heap[C]? = some (.cells (arrG p) 27 (0, 0)) ∧ Hid (Below S w w')) := fun w' h => ⟨(h.block C (lt_of_block hx)).trans hx, hbV.trans (h.mono (Nat.le_trans HSw.out hbV.size))⟩
      obtain ⟨L, hL⟩ := hide (haveBy (heardB self p2.heard) (l.take k))
      rw [hL.out] at Ho Hs hlen
      have HoV : Hid (OwnI S V u4 L) := by show World.ownsRow _ _ _ _ _ _ _; rw [← hV.out]; exact Ho.out.alloc _
      have HC1 := Lib.hid (heard1_law p self I J p2 V (HI.out V hbV) (HJ.out V hbV))
      obtain ⟨z, hz⟩ := hide (heardB self p2.heard p)
      rw [hz.out] at HC1 Hs
      have c0 := cell_n hx 0 (v := .int .i64 p.node) rfl
      have c1 := cell_n hx 1 (v := .int .i64 p.mtch) rfl
      have c2 := cell_n hx 2 (v := .int .i64 p.nxt) rfl
      have c3 := cell_n hx 3 (v := .int .i64 p.state) rfl
      have c4 := cell_n hx 4 (v := .bool p.active) rfl
      have c5 := cell_n hx 5 (v := .int .i64 p.heard) rfl
      have hk1 : k + 1 ≤ 1048577 := by omega
      clear hx hbV
      go_upto_region 4 with fail
      rw [hV.out, hC.out]
      go_wp2_with fail
      refine HC1.out.mono ?_
      rintro e w2 ⟨rfl, hb2⟩
      have Ho2 : Hid (OwnI S w2 u4 L) := own_below HoV.out hb2
      have x2 := Hx.out _ hb2
      have Hb2 := x2.2
      have d0 := cell_n x2.1 0 (v := .int .i64 p.node) rfl
      have HS2 : Hid (S ≤ w2.heap.size) := Nat.le_trans HSw.out Hb2.out.size
      clear hb2 x2 c0 c1 c2 c3 c4 c5 m0 m1 m2 m3 m4 m5
      cases z with
      | false =>
        have Hs2 : Hid (haveBy (heardB self p2.heard) (l.take (k + 1)) = L) := by show _ = _; rw [Hs.out]; simp
        go_wp2_with fail
        go_roundw
        case rel => exact ⟨k + 1, by go_num, hlt, by rw [Hs2.out]; exact Ho2, Hb2⟩
        case measure => simp [intOf]; omega
      | true =>
        have Hs2 : Hid (haveBy (heardB self p2.heard) (l.take (k + 1)) = L ++ [p.node]) := by show _ = _; rw [Hs.out]; simp
        obtain ⟨a4, n4, rfl⟩ := owns_slice Ho2.out
        go_wp2_with (at_builtin; refine wpList_push rfl _ _ 22 rfl S 3 (.int .i64 0) 1 8 Try.underlying22 info_intU rfl (by decide) _ _ _ rfl Ho2.out _ rfl rfl (by intro u hu; simp at hu; subst hu; rfl) (by unfold maxLen; omega) (by omega) HS2.out ?_)
        intro v' w3 ho hg
        have Ho3 : Hid (OwnI S w3 v' (L ++ [p.node])) := by
          show World.ownsRow _ _ _ _ _ _ _
          rw [List.map_append, List.length_append]; exact ho
        have Hb3 : Hid (Below S w w3) := Hb2.out.trans (below_own Ho2.out hg (Nat.le_refl _) HS2.out)
        clear ho hg d0
        go_wp2_with fail
        go_roundw
        case rel => exact ⟨k + 1, by go_num, hlt, by rw [Hs2.out]; exact Ho3, Hb3⟩
        case measure => simp [intOf]; omega
    · have Hp : Hid (post (.returned u4) wr) := by
        show post _ _
        rw [← HP.out]
        refine ⟨_, rfl, ?_, Hb.out⟩
        have := Ho.out
        rw [List.take_of_length_le (by omega)] at this
        exact this
      have t0 : decide (k < l.length) = false := decide_eq_false hlt
      clear hlt
      go_wp2_with fail
      first | exact Hp.out | (go_ret; exact Hp.out)
/-- the greatest of some rounds that enough have answered -/
def bestP (c : Conf) (l : List ProgP) (self : Int) (hs : List Int) : Int := hs.foldl (fun b h => if (decide (b < h) && quorumB c (haveBy (heardB self h) l)) = true then h else b) 0
theorem bestP_snoc (c : Conf) (l : List ProgP) (self : Int) {hs : List Int} {k : Nat} (h : k < hs.length) : bestP c l self (hs.take (k + 1)) = if (decide (bestP c l self (hs.take k) < hs[k]) && quorumB c (haveBy (heardB self hs[k]) l)) = true then hs[k] else bestP c l self (hs.take k) := by
  unfold bestP
  rw [List.take_add_one, List.getElem?_eq_getElem h, List.foldl_append]
  rfl
/-- of all, and of the leader's own -/
def roundP (c : Conf) (l : List ProgP) (self now : Int) : Int := bestP c l self (l.map (·.heard) ++ [now])
theorem info_prg : (Try.prog.info? 27).map (fun i => (i.zero, i.size, i.bytes)) = some (some (.agg #[.int .i64 0, .int .i64 0, .int .i64 0, .int .i64 0, .bool false, .int .i64 0]), 6, 48) := by kernel_rfl
abbrev OwnPr (S : Nat) (w : World) (v : Value) (l : List ProgP) : Prop := w.ownsRow S 27 6 v l.length (l.flatMap rowG)
theorem OwnPr.prgs {S : Nat} {w : World} {v : Value} {l : List ProgP} (h : OwnPr S w v l) : Prgs (fun k => S ≤ k) w v l := Sl.own rowG rowG_len h (fun _ _ => rfl) (fun _ _ h _ => h)
set_option maxHeartbeats 1000000 in
theorem clone_prgs (ev : Value) (es : List ProgP) (F : Nat → Prop) (w : World) (h : Prgs F w ev es) (hn : es.length ≤ 1099511627776) :
    Calls Try.prog 80 #[ev] w fun e w' => ∃ v', e = .returned v' ∧ OwnPr w.heap.size w' v' es ∧ Below w.heap.size w w' := by
  obtain ⟨post, HP⟩ := hide (fun (e : Ending) (w' : World) => ∃ v', e = .returned v' ∧ OwnPr w.heap.size w' v' es ∧ Below w.heap.size w w')
  rw [HP.out]
  obtain ⟨ao, cap, rfl, hcap, hmax⟩ := h.slice
  have keq := fun (w : World) (a : Option Addr) (n c : Nat) => Lib.run_eql_slice_nil (P := Try.prog) w 28 27 a n c 0 0 Try.underlying28
  have Hn := Lib.hid hn
  clear hn hmax
  cases ao with
  | none =>
    obtain ⟨rfl, rfl⟩ := h.isNil
    clear h
    go_enter Try.func80, Try.ntmps80
    go_wp2_with fail
    rw [← HP.out]
    exact ⟨_, rfl, World.ownsRow_nil _ _ _ _, Below.refl _ _⟩
  | some a =>
    have hsrc := src_sl (P := Try.prog) (tx := 28) rowG Try.underlying28 (by decide) rowG_len rowG_one (h.frame (Plain.good _) (Agree.alloc F w (.cells #[] 27)))
    have Hs := Lib.hid hsrc
    have Ho := Lib.hid (own_empty w 27 6)
    clear h hsrc
    go_enter Try.func80, Try.ntmps80
    go_wp2_with (at_builtin; refine wpList_append_src rfl _ _ 28 28 rfl w.heap.size 27 _ 6 48 Try.underlying28 info_prg rfl _ _ _ rfl Ho.out _ _ _ rfl Hs.out (by have := Hn.out; unfold maxLen; omega) (by have := Hn.out; omega) (by simp) ?_)
    intro v' w2 ho hg
    go_wp2_with fail
    rw [← HP.out]
    refine ⟨_, rfl, ho, ?_⟩
    exact ((Below.refl w.heap.size w).alloc (Nat.le_refl _) (.cells #[] 27)).trans (grown_below hg (Nat.le_refl _) (by simp))

end Go.Proofs.Ytgdmcbjlfnjhjaa

namespace Go.Proofs.Ytgdmcbjlfnjhjaa
open Go.RowKit Wm Mm
set_option linter.unusedVariables false
set_option linter.unusedSimpArgs false

set_option maxHeartbeats 4000000 in
theorem round_law (a b d lv : Value) (c : Conf) (l : List ProgP) (F : Nat → Prop) (self now : Int) (w : World) (hc : Config3 w a b d c) (h1 : c.v.length ≤ 1048576) (h2 : c.n.length ≤ 1048576) (hp : Prgs F w lv l) (hl : l.length ≤ 1048575) :
    Calls Try.prog 33 #[.agg #[a, b, d], lv, .int .i64 self, .int .i64 now] w fun e w' => e = .returned (.int .i64 (roundP c l self now)) ∧ Below w.heap.size w w' := by
  obtain ⟨res, hres⟩ := hide (roundP c l self now)
  rw [hres.out]
  obtain ⟨post, HP⟩ := hide (fun (e : Ending) (w' : World) => e = .returned (.int .i64 res) ∧ Below w.heap.size w w')
  rw [HP.out]
  obtain ⟨ao, cap, rfl, _, _⟩ := hp.slice
  obtain ⟨W, hW⟩ := hide ((w.alloc (.cells #[a, b, d] 25)).alloc (.cells #[.int .i64 self] 3))
  have hx : W.heap[w.heap.size]? = some (.cells #[a, b, d] 25 (0, 0)) := by rw [← hW.out]; exact (hp_past _ _ (by simp)).trans (hp_at _ _ rfl)
  have hy : W.heap[w.heap.size + 1]? = some (blkI self) := by rw [← hW.out]; exact hp_at _ _ (by simp)
  have hb : Below w.heap.size w W := by rw [← hW.out]; exact ((Below.refl _ _).alloc (Nat.le_refl _) _).alloc (by simp) _
  have HCl := Lib.hid (clone_prgs (.slice ao l.length cap) l F W (hp.frame (Plain.good _) (Agree.below hb)) (by omega))
  obtain ⟨S, hS⟩ := hide W.heap.size
  have HC0 : Hid (∀ w', Below S W w' → Config3 w' a b d c) := by show ∀ w', _ → _; rw [← hS.out]; exact fun w' h => hc.mono (hb.trans (h.mono hb.size))
  have HG0 : Hid (∀ w', Below S W w' → Prgs F w' (.slice ao l.length cap) l) := by show ∀ w', _ → _; rw [← hS.out]; exact fun w' h => hp.frame (Plain.good _) (Agree.below (hb.trans (h.mono hb.size)))
  have HB0 : Hid (∀ w', Below S W w' → Below w.heap.size w w') := by show ∀ w', _ → _; rw [← hS.out]; exact fun w' h => hb.trans (h.mono hb.size)
  obtain ⟨B, hB⟩ := hide w.heap.size
  rw [hB.out] at hx hy HB0 HP
  have HX0 : Hid (∀ w', Below S W w' → w'.heap[B]? = some (.cells #[a, b, d] 25 (0, 0)) ∧ w'.heap[B + 1]? = some (blkI self)) := by show ∀ w', _ → _; rw [← hS.out]; exact fun w' h => ⟨(h.block _ (lt_of_block hx)).trans hx, (h.block _ (lt_of_block hy)).trans hy⟩
  have HSW : Hid (S ≤ W.heap.size) := by show _ ≤ _; rw [← hS.out]; exact Nat.le_refl _
  rw [hS.out] at HCl
  clear hx hy hb hc hp
  go_enter Try.func33, Try.ntmps33
  go_upto_region 1 with fail
  rw [hW.out, hB.out]
  go_wp2_with fail
  refine HCl.out.mono ?_
  rintro e w2 ⟨v2, rfl, ho2, hb2⟩
  have Ho2 := Lib.hid ho2
  have H2 := Lib.hid hb2
  obtain ⟨a2, n2, rfl⟩ := owns_slice Ho2.out
  have HS2 : Hid (S ≤ w2.heap.size) := Nat.le_trans HSW.out H2.out.size
  clear ho2 hb2
  dsimp only
  go_wp2_with (at_builtin; refine wpList_push rfl _ _ 28 rfl S 27 (.agg #[.int .i64 0, .int .i64 0, .int .i64 0, .int .i64 0, .bool false, .int .i64 0]) 6 48 Try.underlying28 info_prg rfl (by decide) _ _ _ rfl Ho2.out _ rfl rfl (rowG_one ⟨0, 0, 0, 0, false, now⟩) (by unfold maxLen; omega) (by omega) HS2.out ?_)
  intro v3 w3 ho hg
  have Ho3 : Hid (w3.ownsRow S 27 6 v3 (l.length + 1) ((l ++ [(⟨0, 0, 0, 0, false, now⟩ : ProgP)]).flatMap rowG)) := by
    show World.ownsRow _ _ _ _ _ _ _
    rw [List.flatMap_append]; exact ho
  have H3 : Hid (Below S W w3) := H2.out.trans (below_own Ho2.out hg (Nat.le_refl _) HS2.out)
  clear ho hg
  obtain ⟨a3, n3, rfl⟩ := owns_slice Ho3.out
  have hq0 : Prgs (fun k => S ≤ k) w3 (.slice a3 (l.length + 1) n3) (l ++ [(⟨0, 0, 0, 0, false, now⟩ : ProgP)]) := OwnPr.prgs (by show World.ownsRow _ _ _ _ _ _ _; rw [List.length_append]; exact Ho3.out)
  have HQ : Hid (∀ w', Below w3.heap.size w3 w' → Prgs (fun k => S ≤ k) w' (.slice a3 (l.length + 1) n3) (l ++ [(⟨0, 0, 0, 0, false, now⟩ : ProgP)])) := fun w' h => hq0.frame (Plain.good _) (Agree.below h)
  have HU : Hid (∀ w', Below w3.heap.size w3 w' → Below S W w') := fun w' h => H3.out.trans (h.mono (Nat.le_trans HSW.out H3.out.size))
  have Hr : Hid (res = bestP c l self ((l ++ [(⟨0, 0, 0, 0, false, now⟩ : ProgP)]).map (·.heard))) := by show _ = _; rw [← hres.out]; simp [roundP]
  have Hhs : Hid (∀ k (h : k < (l ++ [(⟨0, 0, 0, 0, false, now⟩ : ProgP)]).length), ((l ++ [(⟨0, 0, 0, 0, false, now⟩ : ProgP)]).map (·.heard))[k]'(by rw [List.length_map]; exact h) = (l ++ [(⟨0, 0, 0, 0, false, now⟩ : ProgP)])[k].heard) := fun k h => by rw [List.getElem_map]
  have hN : (l ++ [(⟨0, 0, 0, 0, false, now⟩ : ProgP)]).length = l.length + 1 := by simp
  obtain ⟨L2, hL2⟩ := hide (l ++ [(⟨0, 0, 0, 0, false, now⟩ : ProgP)])
  rw [hL2.out] at HQ Hr Hhs hN
  clear hq0 Ho3
  obtain ⟨N, hNN⟩ := hide (l.length + 1)
  have hNe : N ≤ 1048576 := by rw [← hNN.out]; omega
  rw [hNN.out] at HQ hN
  rw [hNN.out]
  go_wp2_with fail
  go_loopw [20, 9] (fun i9 b9 wr => ∃ (k : Nat) (x : Int), i9 = .int .i64 k ∧ b9 = .int .i64 x ∧ k ≤ N ∧ Hid (x = bestP c l self ((L2.map (·.heard)).take k)) ∧ Hid (Below w3.heap.size w3 wr)) (fun i _ _ => N - (intOf i).toNat)
  case atStart => exact ⟨0, 0, rfl, rfl, Nat.zero_le _, rfl, Below.refl _ _⟩
  case round =>
    obtain ⟨k, x, rfl, rfl, hk, Hx, Hb⟩ := hrel
    by_cases hlt : k < N
    · have hlt2 : k < L2.length := by rw [hN]; exact hlt
      obtain ⟨bb, off, rfl, m0, m1, m2, m3, m4, m5⟩ := (HQ.out _ Hb.out).six hlt2
      have hsn := bestP_snoc c l self (hs := L2.map (·.heard)) (k := k) (by rw [List.length_map]; exact hlt2)
      rw [Hhs.out k hlt2, ← Hx.out] at hsn
      obtain ⟨q, hq⟩ := hide L2[k]
      rw [hq.out] at m0 m1 m2 m3 m4 m5 hsn
      obtain ⟨z, hz⟩ := hide (quorumB c (haveBy (heardB self q.heard) l))
      obtain ⟨y, hy⟩ := hide (decide (x < q.heard))
      rw [hz.out, hy.out] at hsn
      have hy1 := hy.out
      have Hs := Lib.hid hsn
      obtain ⟨V, hV⟩ := hide (wr.alloc (.cells (arrG q) 27))
      obtain ⟨C, hC⟩ := hide wr.heap.size
      have hx : V.heap[C]? = some (.cells (arrG q) 27 (0, 0)) := by rw [← hV.out, ← hC.out]; exact hp_at _ _ rfl
      have hbV : Below w3.heap.size w3 V := by rw [← hV.out]; exact Hb.out.alloc Hb.out.size _
      have hCV : C < V.heap.size := lt_of_block hx
      have Hx2 : Hid (∀ w', Below V.heap.size V w' → w'.heap[C]? = some (.cells (arrG q) 27 (0, 0)) ∧ Hid (Below w3.heap.size w3 w')) := fun w' h => ⟨(h.block C (lt_of_block hx)).trans hx, hbV.trans (h.mono hbV.size)⟩
      have H0 : Hid (Below V.heap.size V V.drew) := (Below.refl _ _).drew
      have hk1 : k + 1 ≤ 1048577 := by omega
      have z0 := Hx2.out _ H0.out
      have y0 := HX0.out _ (HU.out _ z0.2.out)
      have a0 : V.drew.cell? ⟨B, 0, none⟩ = some a := cell_n y0.1 0 rfl
      have a1 : V.drew.cell? ⟨B, 1, none⟩ = some b := cell_n y0.1 1 rfl
      have a2 : V.drew.cell? ⟨B, 2, none⟩ = some d := cell_n y0.1 2 rfl
      have HTn := Lib.hid (hnodes_law self (B + 1) C q (.slice ao l.length cap) l F V.drew y0.2 z0.1 (HG0.out _ (HU.out _ z0.2.out)) (by omega))
      have HQn : Hid (∀ v' w', Below V.heap.size V w' → Ints w' v' (haveBy (heardB self q.heard) l) → Calls Try.prog 14 #[.agg #[a, b, d], v'] w' fun e w'' => e = .returned (.bool z) ∧ Below w'.heap.size w' w'') := by
        show ∀ v' w', _ → _ → _
        intro v' w' h hv
        rw [← hz.out]
        exact quorum_law a b d v' c _ w' (HC0.out _ (HU.out _ (Hx2.out _ h).2.out)) hv (by omega) (by omega)
      clear hx hbV y0 z0 hsn
      go_upto_region 5 with fail
      rw [hV.out, hC.out]
      try dsimp only
      clear m0 m1 m2 m3 m4 m5
      go_region_held3 (fun w' => w'.cell? ⟨B, 0, none⟩ = some a ∧ w'.cell? ⟨B, 1, none⟩ = some b ∧ w'.cell? ⟨B, 2, none⟩ = some d) (first | with_reducible exact ⟨a0, a1, a2⟩ | go_keep) (first
        | (go_at_call 61; (with_reducible refine HTn.out.mono ?_); rintro e w4 ⟨v4, rfl, ho4, hb4⟩; have H4 := Lib.hid (H0.out.trans (hb4.mono H0.out.size)); have Ho4 := Lib.hid (Ints.of_own ho4); have y4 := (HX0.out _ (HU.out _ (Hx2.out _ H4.out).2.out)).1; have a0 : w4.cell? ⟨B, 0, none⟩ = some a := cell_n y4 0 rfl; have a1 : w4.cell? ⟨B, 1, none⟩ = some b := cell_n y4 1 rfl; have a2 : w4.cell? ⟨B, 2, none⟩ = some d := cell_n y4 2 rfl; clear hb4 ho4 y4)
        | (go_at_call 14; (with_reducible refine (HQn.out _ _ H4.out Ho4.out).mono ?_); rintro e w5 ⟨rfl, hb5⟩; have H5 := Lib.hid (H4.out.trans (hb5.mono H4.out.size)); have y4 := (HX0.out _ (HU.out _ (Hx2.out _ H5.out).2.out)).1; have a0 : w5.cell? ⟨B, 0, none⟩ = some a := cell_n y4 0 rfl; have a1 : w5.cell? ⟨B, 1, none⟩ = some b := cell_n y4 1 rfl; have a2 : w5.cell? ⟨B, 2, none⟩ = some d := cell_n y4 2 rfl; clear hb5 y4))
      all_goals
        clear a0 a1 a2
        have y5 := Hx2.out _ H5.out
        have Hb5 := y5.2
        have c5 := cell_n y5.1 5 (v := .int .i64 q.heard) rfl
        clear y5
        cases y <;> cases z
        all_goals
          have Hn := Hs.out
          simp only [Bool.and_self, Bool.and_false, Bool.false_and, Bool.false_eq_true, if_false, if_true] at Hn
          have Hn := Lib.hid Hn
          go_wp2_with fail
          go_roundw
          case rel => exact ⟨k + 1, _, by go_num, rfl, hlt, Hn.out.symm, Hb5⟩
          case measure => simp [intOf]; omega
    · have hkN : k = N := by omega
      have hxr : x = res := by
        rw [Hx.out, Hr.out, hkN, ← hN, List.take_of_length_le (by simp)]
      subst hxr
      have Hp := Lib.hid (show post (.returned (.int .i64 x)) wr by rw [← HP.out]; exact ⟨rfl, HB0.out _ (HU.out _ Hb.out)⟩)
      have t0 : decide (k < N) = false := decide_eq_false hlt
      clear hlt hkN
      go_wp2_with fail
      first | exact Hp.out | (go_ret; exact Hp.out)
end Go.Proofs.Ytgdmcbjlfnjhjaa

namespace Go.Proofs.Ytgdmcbjlfnjhjaa
open Go.RowKit Wm Mm
set_option linter.unusedVariables false
set_option linter.unusedSimpArgs false

set_option maxHeartbeats 4000000 in
theorem refRound_law (a b d lv : Value) (c : Conf) (l : List ProgP) (F : Nat → Prop) (self now : Int) (w : World) (hc : Config3 w a b d c) (h1 : c.v.length ≤ 1048576) (h2 : c.n.length ≤ 1048576) (hp : Prgs F w lv l) (hl : l.length ≤ 1048575) :
    Calls Try.prog 34 #[.agg #[a, b, d], lv, .int .i64 self, .int .i64 now] w fun e w' => e = .returned (.int .i64 (roundP c l self now)) ∧ Below w.heap.size w w' := by
  obtain ⟨res, hres⟩ := hide (roundP c l self now)
  rw [hres.out]
  obtain ⟨post, HP⟩ := hide (fun (e : Ending) (w' : World) => e = .returned (.int .i64 res) ∧ Below w.heap.size w w')
  rw [HP.out]
  obtain ⟨ao, cap, rfl, _, _⟩ := hp.slice
  obtain ⟨W, hW⟩ := hide (w.alloc (.cells #[a, b, d] 25))
  have hx : W.heap[w.heap.size]? = some (.cells #[a, b, d] 25 (0, 0)) := by rw [← hW.out]; exact hp_at _ _ rfl
  have hb : Below w.heap.size w W := by rw [← hW.out]; exact (Below.refl _ _).alloc (Nat.le_refl _) _
  obtain ⟨S, hS⟩ := hide W.heap.size
  have HC : Hid (∀ w', Below S W w' → Config3 w' a b d c) := by show ∀ w', _ → _; rw [← hS.out]; exact fun w' h => hc.mono (hb.trans (h.mono hb.size))
  have HG : Hid (∀ w', Below S W w' → Prgs F w' (.slice ao l.length cap) l) := by show ∀ w', _ → _; rw [← hS.out]; exact fun w' h => hp.frame (Plain.good _) (Agree.below (hb.trans (h.mono hb.size)))
  have Hp : Hid (∀ w', Below S W w' → post (.returned (.int .i64 res)) w') := by show ∀ w', _ → _; rw [← hS.out, ← HP.out]; exact fun w' h => ⟨rfl, hb.trans (h.mono hb.size)⟩
  obtain ⟨B, hB⟩ := hide w.heap.size
  rw [hB.out] at hx
  have HX : Hid (∀ w', Below S W w' → w'.heap[B]? = some (.cells #[a, b, d] 25 (0, 0))) := by show ∀ w', _ → _; rw [← hS.out]; exact fun w' h => (h.block _ (lt_of_block hx)).trans hx
  have HSW : Hid (S ≤ W.heap.size) := by show _ ≤ _; rw [← hS.out]; exact Nat.le_refl _
  have Hr : Hid (res = bestP c l self (l.map (·.heard) ++ [now])) := hres.out.symm
  clear hx hb hc hp
  go_enter Try.func34, Try.ntmps34
  go_upto_region 1 with fail
  rw [hW.out, hB.out]
  go_wp2_with fail
  go_loopw [10, 9] (fun i9 b9 wr => ∃ (k : Nat) (x : Int), i9 = .int .i64 k ∧ b9 = .int .i64 x ∧ k ≤ l.length + 1 ∧ Hid (x = bestP c l self ((l.map (·.heard) ++ [now]).take k)) ∧ Hid (Below S W wr)) (fun i _ _ => l.length + 1 - (intOf i).toNat)
  case atStart => exact ⟨0, 0, rfl, rfl, Nat.zero_le _, rfl, Below.refl _ _⟩
  case round =>
    obtain ⟨k, x, rfl, rfl, hk, Hx, Hb⟩ := hrel
    have hkb : k ≤ 1048576 := by omega
    have HU : Hid (∀ w', Below wr.heap.size wr w' → Below S W w') := fun w' h => Hb.out.trans (h.mono (Nat.le_trans HSW.out Hb.out.size))
    by_cases hle : k ≤ l.length
    · have hk2 : k + 1 ≤ l.length + 1 := by omega
      have tt : decide ((k : Int) ≤ (l.length : Int)) = true := decide_eq_true (by omega)
      have tn : decide (k ≤ l.length) = true := decide_eq_true hle
      have hsn := bestP_snoc c l self (hs := l.map (·.heard) ++ [now]) (k := k) (by simp; omega)
      rw [← Hx.out] at hsn
      by_cases hlt : k < l.length
      · rw [show (l.map (·.heard) ++ [now])[k]'(by simp; omega) = l[k].heard from by rw [List.getElem_append_left (by simpa using hlt), List.getElem_map]] at hsn
        obtain ⟨bb, off, rfl, m0, m1, m2, m3, m4, m5⟩ := (HG.out _ Hb.out).six hlt
        obtain ⟨r, hr⟩ := hide l[k].heard
        rw [hr.out] at hsn m5
        have Hsn := Lib.hid hsn
        have t0 : decide (k < l.length) = true := decide_eq_true hlt
        clear hsn m0 m1 m2 m3 m4
        go_upto_region 9 with fail
        clear m5 t0
        obtain ⟨V, hV⟩ : ∃ V, V = wr := ⟨_, rfl⟩
        subst hV
        go_wp2_with fail
        go_loopw [12, 13] (fun v12 i13 wr => ∃ j : Nat, i13 = .int .i64 (j : Int) ∧ j ≤ l.length ∧ Hid (OwnJ V.heap.size wr v12 (haveBy (heardB self r) (l.take j))) ∧ Hid (Below V.heap.size V wr)) (fun _ i _ => l.length - (intOf i).toNat)
        case atStart => exact ⟨0, rfl, Nat.zero_le _, World.ownsRow_nil _ _ _ _, Below.refl _ _⟩
        case round =>
          obtain ⟨j, rfl, hj, Ho, Hbj⟩ := hrel
          by_cases hjl : j < l.length
          · obtain ⟨b', off9, eao, m0, m1, m2, m3, m4, m5⟩ := (HG.out _ (HU.out _ Hbj.out)).six hjl
            cases eao
            have Hs := Lib.hid (haveBy_snoc (heardB self r) hjl)
            have hlen := haveBy_len (heardB self r) (l.take j)
            rw [List.length_take] at hlen
            obtain ⟨p, hp⟩ := hide l[j]
            rw [hp.out] at m0 m5 Hs
            have Hdef : Hid (heardB self r p = ((p.node == self) || decide (r ≤ p.heard))) := rfl
            obtain ⟨L, hL⟩ := hide (haveBy (heardB self r) (l.take j))
            rw [hL.out] at Ho Hs hlen
            obtain ⟨z, hz⟩ := hide (heardB self r p)
            obtain ⟨z1, hz1⟩ := hide (p.node == self)
            obtain ⟨z2, hz2⟩ := hide (decide (r ≤ p.heard))
            rw [hz.out] at Hs
            rw [hz.out, hz1.out, hz2.out] at Hdef
            have e1 := hz1.out
            have e2 := hz2.out
            have HSz : Hid (V.heap.size ≤ wr.heap.size) := Hbj.out.size
            have hj1 : j + 1 ≤ 1048577 := by omega
            clear m1 m2 m3 m4
            cases z1 <;> cases z2
            all_goals
              have hzz := Hdef.out
              simp only [Bool.or_false, Bool.or_true, Bool.false_or, Bool.true_or] at hzz
              subst hzz
              first
              | (have Hs2 : Hid (haveBy (heardB self r) (l.take (j + 1)) = L ++ [p.node]) := by show _ = _; rw [Hs.out, if_pos rfl]
                 obtain ⟨a4, n4, rfl⟩ := owns_slice Ho.out
                 go_wp2_with (at_builtin; refine wpList_push rfl _ _ 22 rfl V.heap.size 3 (.int .i64 0) 1 8 Try.underlying22 info_intJ rfl (by decide) _ _ _ rfl Ho.out _ rfl rfl (by intro u hu; simp at hu; subst hu; rfl) (by unfold maxLen; omega) (by omega) HSz.out ?_)
                 intro v' w3 ho hg
                 have Ho3 : Hid (OwnJ V.heap.size w3 v' (haveBy (heardB self r) (l.take (j + 1)))) := by
                   show World.ownsRow _ _ _ _ _ _ _
                   rw [Hs2.out, List.map_append, List.length_append]; exact ho
                 have Hb3 : Hid (Below V.heap.size V w3) := Hbj.out.trans (below_own Ho.out hg (Nat.le_refl _) HSz.out)
                 clear ho hg
                 go_wp2_with fail
                 go_roundw
                 case rel => exact ⟨j + 1, by go_num, hjl, Ho3, Hb3⟩
                 case measure => simp [intOf]; omega)
              | (have Ho3 : Hid (OwnJ V.heap.size wr u12 (haveBy (heardB self r) (l.take (j + 1)))) := by
                   show World.ownsRow _ _ _ _ _ _ _
                   rw [Hs.out, if_neg (by simp), List.append_nil]; exact Ho.out
                 go_wp2_with fail
                 go_roundw
                 case rel => exact ⟨j + 1, by go_num, hjl, Ho3, Hbj⟩
                 case measure => simp [intOf]; omega)
          · have Hi : Hid (Ints wr u12 (haveBy (heardB self r) l)) := by
              have := Ho.out
              rw [List.take_of_length_le (by omega)] at this
              exact Ints.of_own this
            have KQ := refQuorum_law a b d u12 c _ wr (HC.out _ (HU.out _ Hbj.out)) Hi.out (by omega) (by omega)
            obtain ⟨z, hz⟩ := hide (quorumB c (haveBy (heardB self r) l))
            obtain ⟨y, hy⟩ := hide (decide (x < r))
            have Hs := Lib.hid (Hsn.out)
            rw [hz.out, hy.out] at Hs
            have hy1 := hy.out
            rw [hz.out] at KQ
            have KQ := Lib.hid KQ
            have x0 := HX.out _ (HU.out _ Hbj.out)
            have c0 : wr.cell? ⟨B, 0, none⟩ = some a := cell_n x0 0 rfl
            have c1 : wr.cell? ⟨B, 1, none⟩ = some b := cell_n x0 1 rfl
            have c2 : wr.cell? ⟨B, 2, none⟩ = some d := cell_n x0 2 rfl
            have t9 : decide (j < l.length) = false := decide_eq_false hjl
            clear hjl x0
            go_wp2_with fail
            refine KQ.out.mono ?_
            rintro e w3 ⟨rfl, hb3⟩
            have Hb3 := Lib.hid (HU.out _ (Hbj.out.trans (hb3.mono Hbj.out.size)))
            clear hb3 c0 c1 c2
            dsimp only
            cases y <;> cases z
            all_goals
              have Hn := Hs.out
              simp only [Bool.and_self, Bool.and_false, Bool.false_and, Bool.false_eq_true, if_false, if_true] at Hn
              have Hn := Lib.hid Hn
              go_wp2_with fail
              go_roundw
              case rel => exact ⟨k + 1, _, by go_num, rfl, hk2, Hn.out.symm, Hb3⟩
              case measure => simp [intOf]; omega
      · have hkN : k = l.length := by omega
        rw [show (l.map (·.heard) ++ [now])[k]'(by simp; omega) = now from by rw [List.getElem_append_right (by simp; omega)]; simp] at hsn
        have Hsn := Lib.hid hsn
        have t0 : decide (k < l.length) = false := decide_eq_false hlt
        clear hsn hkN
        obtain ⟨r, hr⟩ : ∃ r, r = now := ⟨_, rfl⟩
        rw [← hr] at Hsn
        subst hr
        go_upto_region 9 with fail
        clear t0
        obtain ⟨V, hV⟩ : ∃ V, V = wr := ⟨_, rfl⟩
        subst hV
        go_wp2_with fail
        go_loopw [12, 13] (fun v12 i13 wr => ∃ j : Nat, i13 = .int .i64 (j : Int) ∧ j ≤ l.length ∧ Hid (OwnJ V.heap.size wr v12 (haveBy (heardB self r) (l.take j))) ∧ Hid (Below V.heap.size V wr)) (fun _ i _ => l.length - (intOf i).toNat)
        case atStart => exact ⟨0, rfl, Nat.zero_le _, World.ownsRow_nil _ _ _ _, Below.refl _ _⟩
        case round =>
          obtain ⟨j, rfl, hj, Ho, Hbj⟩ := hrel
          by_cases hjl : j < l.length
          · obtain ⟨b', off, rfl, m0, m1, m2, m3, m4, m5⟩ := (HG.out _ (HU.out _ Hbj.out)).six hjl
            have Hs := Lib.hid (haveBy_snoc (heardB self r) hjl)
            have hlen := haveBy_len (heardB self r) (l.take j)
            rw [List.length_take] at hlen
            obtain ⟨p, hp⟩ := hide l[j]
            rw [hp.out] at m0 m5 Hs
            have Hdef : Hid (heardB self r p = ((p.node == self) || decide (r ≤ p.heard))) := rfl
            obtain ⟨L, hL⟩ := hide (haveBy (heardB self r) (l.take j))
            rw [hL.out] at Ho Hs hlen
            obtain ⟨z, hz⟩ := hide (heardB self r p)
            obtain ⟨z1, hz1⟩ := hide (p.node == self)
            obtain ⟨z2, hz2⟩ := hide (decide (r ≤ p.heard))
            rw [hz.out] at Hs
            rw [hz.out, hz1.out, hz2.out] at Hdef
            have e1 := hz1.out
            have e2 := hz2.out
            have HSz : Hid (V.heap.size ≤ wr.heap.size) := Hbj.out.size
            have hj1 : j + 1 ≤ 1048577 := by omega
            clear m1 m2 m3 m4
            cases z1 <;> cases z2
            all_goals
              have hzz := Hdef.out
              simp only [Bool.or_false, Bool.or_true, Bool.false_or, Bool.true_or] at hzz
              subst hzz
              first
              | (have Hs2 : Hid (haveBy (heardB self r) (l.take (j + 1)) = L ++ [p.node]) := by show _ = _; rw [Hs.out, if_pos rfl]
                 obtain ⟨a4, n4, rfl⟩ := owns_slice Ho.out
                 go_wp2_with (at_builtin; refine wpList_push rfl _ _ 22 rfl V.heap.size 3 (.int .i64 0) 1 8 Try.underlying22 info_intJ rfl (by decide) _ _ _ rfl Ho.out _ rfl rfl (by intro u hu; simp at hu; subst hu; rfl) (by unfold maxLen; omega) (by omega) HSz.out ?_)
                 intro v' w3 ho hg
                 have Ho3 : Hid (OwnJ V.heap.size w3 v' (haveBy (heardB self r) (l.take (j + 1)))) := by
                   show World.ownsRow _ _ _ _ _ _ _
                   rw [Hs2.out, List.map_append, List.length_append]; exact ho
                 have Hb3 : Hid (Below V.heap.size V w3) := Hbj.out.trans (below_own Ho.out hg (Nat.le_refl _) HSz.out)
                 clear ho hg
                 go_wp2_with fail
                 go_roundw
                 case rel => exact ⟨j + 1, by go_num, hjl, Ho3, Hb3⟩
                 case measure => simp [intOf]; omega)
              | (have Ho3 : Hid (OwnJ V.heap.size wr u12 (haveBy (heardB self r) (l.take (j + 1)))) := by
                   show World.ownsRow _ _ _ _ _ _ _
                   rw [Hs.out, if_neg (by simp), List.append_nil]; exact Ho.out
                 go_wp2_with fail
                 go_roundw
                 case rel => exact ⟨j + 1, by go_num, hjl, Ho3, Hbj⟩
                 case measure => simp [intOf]; omega)
          · have Hi : Hid (Ints wr u12 (haveBy (heardB self r) l)) := by
              have := Ho.out
              rw [List.take_of_length_le (by omega)] at this
              exact Ints.of_own this
            have KQ := refQuorum_law a b d u12 c _ wr (HC.out _ (HU.out _ Hbj.out)) Hi.out (by omega) (by omega)
            obtain ⟨z, hz⟩ := hide (quorumB c (haveBy (heardB self r) l))
            obtain ⟨y, hy⟩ := hide (decide (x < r))
            have Hs := Lib.hid (Hsn.out)
            rw [hz.out, hy.out] at Hs
            have hy1 := hy.out
            rw [hz.out] at KQ
            have KQ := Lib.hid KQ
            have x0 := HX.out _ (HU.out _ Hbj.out)
            have c0 : wr.cell? ⟨B, 0, none⟩ = some a := cell_n x0 0 rfl
            have c1 : wr.cell? ⟨B, 1, none⟩ = some b := cell_n x0 1 rfl
            have c2 : wr.cell? ⟨B, 2, none⟩ = some d := cell_n x0 2 rfl
            have t9 : decide (j < l.length) = false := decide_eq_false hjl
            clear hjl x0
            go_wp2_with fail
            refine KQ.out.mono ?_
            rintro e w3 ⟨rfl, hb3⟩
            have Hb3 := Lib.hid (HU.out _ (Hbj.out.trans (hb3.mono Hbj.out.size)))
            clear hb3 c0 c1 c2
            dsimp only
            cases y <;> cases z
            all_goals
              have Hn := Hs.out
              simp only [Bool.and_self, Bool.and_false, Bool.false_and, Bool.false_eq_true, if_false, if_true] at Hn
              have Hn := Lib.hid Hn
              go_wp2_with fail
              go_roundw
              case rel => exact ⟨k + 1, _, by go_num, rfl, hk2, Hn.out.symm, Hb3⟩
              case measure => simp [intOf]; omega
    · have hxr : x = res := by
        rw [Hx.out, Hr.out, List.take_of_length_le (by simp; omega)]
      subst hxr
      have Hq := Lib.hid (Hp.out _ Hb.out)
      have t0 : decide (k ≤ l.length) = false := decide_eq_false hle
      have t1 : decide ((k : Int) ≤ (l.length : Int)) = false := decide_eq_false (by omega)
      clear hle
      go_wp2_with fail
      first | exact Hq.out | (go_ret; exact Hq.out)
end Go.Proofs.Ytgdmcbjlfnjhjaa
