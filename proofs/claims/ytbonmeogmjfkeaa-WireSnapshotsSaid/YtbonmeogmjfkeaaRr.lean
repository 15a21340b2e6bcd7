/-
  The reader that keeps its first error: its small methods, walked.
-/
import Derived.Test.YtbonmeogmjfkeaaWm
import Derived.WalkSpells
import Derived.WalkLawsBesides
import Derived.Lib.Hide
import Derived.Deep.QuietTactic
import Derived.BigQuiet
namespace Go.Proofs.Ytbonmeogmjfkeaa
open Go.RowKit Wm Mm
set_option linter.unusedVariables false

/-- a reader's state: what is left, or the first error -/
def Rs (w : World) (b : Nat) (σ : St) : Prop :=
  match σ with
  | .ok s => w.heap[b]? = some (.cells #[str s, .int .i64 0] 144 (0, 0)) ∧ s.length ≤ 9223372036854775807
  | .error z => w.heap[b]? = some (.cells #[str [], .int .i64 z] 144 (0, 0)) ∧ z ≠ 0

/-- how a call of that reader ends -/
def Steps {α : Type} (b : Nat) (w : World) (V : α → Value) (x : α) (σ : St) (e : Ending) (w' : World) : Prop :=
  e = .returned (V x) ∧ Rs w' b σ ∧ w.grownBy w' (some b)

theorem two_cell0 {w : World} {b : Nat} {u v : Value} {t : TypeId} (h : w.heap[b]? = some (.cells #[u, v] t (0, 0))) : w.cell? ⟨b, 0, none⟩ = some u := by simp [World.cell?, h]
theorem two_cell1 {w : World} {b : Nat} {u v : Value} {t : TypeId} (h : w.heap[b]? = some (.cells #[u, v] t (0, 0))) : w.cell? ⟨b, 1, none⟩ = some v := by simp [World.cell?, h]
theorem two_free {w : World} {b i : Nat} {u v : Value} {t : TypeId} (h : w.heap[b]? = some (.cells #[u, v] t (0, 0))) : w.frozen? ⟨b, i, none⟩ = false := by simp [World.frozen?, h]
theorem two_set0 {w : World} {b : Nat} {u v x : Value} {t : TypeId} (h : w.heap[b]? = some (.cells #[u, v] t (0, 0))) : (w.setCell ⟨b, 0, none⟩ x).heap[b]? = some (.cells #[x, v] t (0, 0)) := by
  rw [heap_setCell]; simp [h, storeIn]
theorem two_set1 {w : World} {b : Nat} {u v x : Value} {t : TypeId} (h : w.heap[b]? = some (.cells #[u, v] t (0, 0))) : (w.setCell ⟨b, 1, none⟩ x).heap[b]? = some (.cells #[u, x] t (0, 0)) := by
  rw [heap_setCell]; simp [h, storeIn]

set_option maxHeartbeats 400000 in
theorem bad_rs {b : Nat} {σ : St} {w : World} (z : Int) (hz : z ≠ 0) (h : Rs w b σ) :
    Calls Try.prog 101 #[.pointer (some ⟨b, 0, none⟩), .int .i64 z] w fun e w' =>
      e = .returned (.tuple #[]) ∧ Rs w' b (badS z σ) ∧ w.grownBy w' (some b) := by
  cases σ with
  | ok s =>
    have h1 := h.1
    have c0 := two_cell0 h1
    have c1 := two_cell1 h1
    have f0 := two_free (i := 0) h1
    have f1 := two_free (i := 1) h1
    have H := Lib.hid h1
    clear h h1
    go_enter Try.func101, Try.ntmps101
    go_wp2
    go_end0
    exact ⟨rfl, ⟨two_set0 (two_set1 H.out), hz⟩, grown_trans (grown_setCell _ _ _) (grown_setCell _ _ _)⟩
  | error y =>
    have h1 := h.1
    have hy : (y == 0) = false := beq_eq_false_iff_ne.2 h.2
    have Hy := Lib.hid h.2
    have c0 := two_cell0 h1
    have c1 := two_cell1 h1
    have f0 := two_free (i := 0) h1
    have H := Lib.hid h1
    clear h h1
    go_enter Try.func101, Try.ntmps101
    go_wp2
    go_end0
    exact ⟨rfl, ⟨two_set0 H.out, Hy.out⟩, grown_setCell _ _ _⟩

set_option maxHeartbeats 400000 in
theorem take_rs {b : Nat} {σ : St} {w : World} (n : Nat) (h : Rs w b σ) :
    Calls Try.prog 95 #[.pointer (some ⟨b, 0, none⟩), .int .i64 n] w
      (Steps b w vStr (stepV [] (rdTake n) σ) (stepS (rdTake n) σ)) := by
  cases σ with
  | ok s =>
    have h1 := h.1
    have hs := h.2
    have c0 := two_cell0 h1
    have c1 := two_cell1 h1
    have f0 := two_free (i := 0) h1
    have f1 := two_free (i := 1) h1
    by_cases hn : s.length < n
    · have e1 : stepV [] (rdTake n) (.ok s) = [] := by simp only [stepV, rdTake, if_pos hn, rvalOf]
      have e2 : stepS (rdTake n) (.ok s) = .error 3 := by simp only [stepS, rdTake, if_pos hn, rstOf]
      rw [e1, e2]
      have Hb := bad_rs (z := 3) (by decide) h
      have H := Lib.hid h1
      have HB := Lib.hid Hb
      clear h h1 Hb e1 e2
      go_enter Try.func95, Try.ntmps95
      go_wp2_with fail
      refine HB.out.mono ?_
      rintro e w' ⟨rfl, hr, hg⟩
      have Hr := Lib.hid hr
      have Hg := Lib.hid hg
      clear hr hg
      go_wp2_with fail
      go_ret
      exact ⟨rfl, Hr.out, Hg.out⟩
    · have e1 : stepV [] (rdTake n) (.ok s) = s.take n := by simp only [stepV, rdTake, if_neg hn, rvalOf]
      have e2 : stepS (rdTake n) (.ok s) = .ok (s.drop n) := by simp only [stepS, rdTake, if_neg hn, rstOf]
      rw [e1, e2]
      have H := Lib.hid h1
      clear h h1 e1 e2
      go_enter Try.func95, Try.ntmps95
      go_wp2_with fail
      go_ret
      exact ⟨rfl, ⟨two_set0 H.out, by simp; omega⟩, grown_setCell _ _ _⟩
  | error y =>
    have h1 := h.1
    have hy : (y == 0) = false := beq_eq_false_iff_ne.2 h.2
    have Hy := Lib.hid h
    have c0 := two_cell0 h1
    have c1 := two_cell1 h1
    clear h h1
    go_enter Try.func95, Try.ntmps95
    go_wp2_with fail
    go_ret
    exact ⟨rfl, Hy.out, World.grownBy.refl _ _⟩

set_option maxHeartbeats 1000000 in
set_option maxRecDepth 10000 in
theorem number_rs {b : Nat} {σ : St} {w : World} (h : Rs w b σ) :
    Calls Try.prog 84 #[.pointer (some ⟨b, 0, none⟩)] w
      (Steps b w vNat (stepV 0 rdNum σ) (stepS rdNum σ)) := by
  cases σ with
  | error y =>
    have h1 := h.1
    have hy : (y == 0) = false := beq_eq_false_iff_ne.2 h.2
    have Hy := Lib.hid h
    have HT := Lib.hid (take_rs 1 h)
    clear h h1
    go_enter Try.func84, Try.ntmps84
    go_wp2
    refine wp_loop_once ?_
    go_wp2_with fail
    refine HT.out.mono ?_
    rintro e w' ⟨rfl, hr, hg⟩
    have h1 := hr.1
    have c1 := two_cell1 h1
    have Hr := Lib.hid hr
    have Hg := Lib.hid hg
    clear hr hg h1
    go_wp2_with fail
    go_ret
    exact ⟨rfl, Hr.out, Hg.out⟩
  | ok s =>
    obtain ⟨res, HR⟩ := hide (rdNum s)
    obtain ⟨post, HP⟩ := hide (Steps b w vNat (rvalOf 0 res) (rstOf res))
    have e0 : Steps b w vNat (stepV 0 rdNum (.ok s)) (stepS rdNum (.ok s)) = post := by rw [← HP.out, ← HR.out]; rfl
    rw [e0]
    clear e0
    go_enter Try.func84, Try.ntmps84
    go_wp2
    go_loopw [3, 4] (fun n i wr => ∃ k a : Nat, ∃ u : List UInt8, n = .int .i64 a ∧ i = .int .i64 k ∧ Hid (Rs wr b (.ok u)) ∧ Hid (w.grownBy wr (some b)) ∧ Hid (rdNumAt k a u = res) ∧ Hid (a < 2 ^ (7 * k)) ∧ k ≤ 6)
      (fun _ i _ => 42 - (intOf i).toNat)
    case atStart => exact ⟨0, 0, s, rfl, rfl, h, World.grownBy.refl _ _, HR, by show 0 < 2 ^ 0; decide, by decide⟩
    case round =>
      obtain ⟨k, a, u, rfl, rfl, hrs, hgr, hrd, ha, hk⟩ := hrel
      go_wp2_with fail
      refine (take_rs 1 hrs.out).mono ?_
      cases u with
      | nil =>
        have e1 : res = .error 3 := by rw [← hrd.out]; rfl
        rintro e w' ⟨rfl, hr, hg⟩
        have hr2 : Rs w' b (.error 3) := hr
        have c1 := two_cell1 hr2.1
        have Hr := Lib.hid hr2
        have Hg := Lib.hid hg
        clear hr hg hr2
        go_wp2_with fail
        rw [← HP.out, e1]
        exact ⟨rfl, Hr.out, grown_trans hgr.out Hg.out⟩
      | cons c u =>
        rintro e w' ⟨rfl, hr, hg⟩
        have hr2 : Rs w' b (.ok u) := hr
        have c1 := two_cell1 hr2.1
        have Hr := Lib.hid hr2
        have Hg := Lib.hid (grown_trans hgr.out hg)
        have et : stepV [] (rdTake 1) (.ok (c :: u)) = [c] := rfl
        rw [et]
        have hc := c.toNat_lt
        obtain ⟨m, hm⟩ : ∃ m : Nat, c.toNat % 128 * 2 ^ (7 * k) = m := ⟨_, rfl⟩
        have hp : 2 ^ (7 * k) ≤ 2 ^ 42 := Nat.pow_le_pow_right (by decide) (by omega)
        have hm2 : m ≤ 127 * 2 ^ (7 * k) := by rw [← hm]; exact Nat.mul_le_mul_right _ (by omega)
        have ha2 := ha.out
        have Hn : Hid (a + m < 2 ^ (7 * (k + 1))) := by
          have : 2 ^ (7 * (k + 1)) = 2 ^ (7 * k) * 128 := by rw [show 7 * (k + 1) = 7 * k + 7 from by omega, Nat.pow_add]
          show a + m < 2 ^ (7 * (k + 1))
          rw [this]
          omega
        have hrd2 : (if (0 < k ∧ c.toNat = 0) ∨ 1099511627775 < a + m ∨ 5 < k then .error 1 else if c.toNat < 128 then .ok (a + m, u) else rdNumAt (k + 1) (a + m) u) = res := by
          rw [← hrd.out, rdNumAt, hm]
        have hw1 : wrap64 ((c.toNat : Int) % 128 * 2 ^ (7 * k)) = (m : Int) := by
          have e : (c.toNat : Int) % 128 * 2 ^ (7 * k) = (m : Int) := by rw [← hm]; push_cast; rfl
          rw [e]; exact IntWalk.wrap64_in _ ⟨by omega, by omega⟩
        have hw2 : wrap64 ((a : Int) + (m : Int)) = (a : Int) + (m : Int) := IntWalk.wrap64_in _ ⟨by omega, by omega⟩
        have hn0 : (0 : Int) ≤ (a : Int) + (m : Int) := by omega
        have Hrd := Lib.hid hrd2
        have Hm := Lib.hid hm
        have HB := Lib.hid (fun z hz => bad_rs (z := z) hz hr2)
        have hkn : 0 ≤ 7 * (k : Int) := by omega
        clear hr hg hr2 hrs hgr hrd ha ha2 hm2 hp hrd2 hm et
        by_cases hz : 0 < k ∧ c.toNat = 0
        · obtain ⟨hk0, hc0⟩ := hz
          have e1 : res = .error 1 := by rw [← Hrd.out, if_pos (Or.inl ⟨hk0, hc0⟩)]
          have t0 : decide (0 < k) = true := decide_eq_true (by omega)
          have t1 : ((c.toNat : Int) == 0) = true := beq_iff_eq.2 (by omega)
          clear hk0 hc0
          go_wp2_with fail
          refine (HB.out 1 (by decide)).mono ?_
          rintro e w2 ⟨rfl, hr, hg⟩
          have Hr2 := Lib.hid hr
          have Hg2 := Lib.hid (grown_trans Hg.out hg)
          clear hr hg
          go_wp2_with fail
          rw [← HP.out, e1]
          exact ⟨rfl, Hr2.out, Hg2.out⟩
        by_cases hbig : 1099511627775 < a + m
        · have e1 : res = .error 1 := by rw [← Hrd.out, if_pos (Or.inr (Or.inl hbig))]
          have hbT : decide ((1099511627775 : Int) < (a : Int) + (m : Int)) = true := decide_eq_true (by omega)
          have hk0 : 0 < k := by
            rcases Nat.eq_zero_or_pos k with rfl | h
            · exfalso
              have h1 := Hm.out
              have h2 := Hn.out
              simp at h1 h2
              omega
            · exact h
          have t0 : decide (0 < k) = true := decide_eq_true (by omega)
          have t1 : ((c.toNat : Int) == 0) = false := beq_eq_false_iff_ne.2 (by omega)
          clear hk0 hz hbig
          go_wp2_with fail
          refine (HB.out 1 (by decide)).mono ?_
          rintro e w2 ⟨rfl, hr, hg⟩
          have Hr2 := Lib.hid hr
          have Hg2 := Lib.hid (grown_trans Hg.out hg)
          clear hr hg
          go_wp2_with fail
          rw [← HP.out, e1]
          exact ⟨rfl, Hr2.out, Hg2.out⟩
        have hbF : decide ((1099511627775 : Int) < (a : Int) + (m : Int)) = false := decide_eq_false (by omega)
        by_cases h5 : 5 < k
        · have e1 : res = .error 1 := by rw [← Hrd.out, if_pos (Or.inr (Or.inr h5))]
          have t0 : decide (0 < k) = true := decide_eq_true (by omega)
          have t5 : decide ((5 : Int) < (k : Int)) = true := decide_eq_true (by omega)
          have t1 : ((c.toNat : Int) == 0) = false := beq_eq_false_iff_ne.2 (by omega)
          clear hz hbig h5
          go_wp2_with fail
          refine (HB.out 1 (by decide)).mono ?_
          rintro e w2 ⟨rfl, hr, hg⟩
          have Hr2 := Lib.hid hr
          have Hg2 := Lib.hid (grown_trans Hg.out hg)
          clear hr hg
          go_wp2_with fail
          rw [← HP.out, e1]
          exact ⟨rfl, Hr2.out, Hg2.out⟩
        have hcz : 0 < k → ((c.toNat : Int) == 0) = false := fun h => beq_eq_false_iff_ne.2 (by omega)
        have hrd3 : (if c.toNat < 128 then .ok (a + m, u) else rdNumAt (k + 1) (a + m) u) = res := by
          have h := Hrd.out
          rw [if_neg (fun h => h.elim hz (fun h => h.elim hbig (fun h => by omega)))] at h
          exact h
        have Hrd3 := Lib.hid hrd3
        have t5 : decide ((5 : Int) < (k : Int)) = false := decide_eq_false (by omega)
        have hk5 : k ≤ 5 := by omega
        clear hrd3 hbig hz h5
        by_cases hc128 : c.toNat < 128
        · have e1 : res = .ok (a + m, u) := by rw [← Hrd3.out, if_pos hc128]
          have hcd : decide ((c.toNat : Int) < 128) = true := decide_eq_true (by omega)
          clear hc128
          by_cases hk0 : 0 < k
          all_goals
            first
            | (have t0 : decide (0 < k) = true := decide_eq_true (by omega)
               have t1 := hcz hk0
               clear hcz hk0)
            | (have t0 : decide (0 < k) = false := decide_eq_false (by omega)
               clear hcz hk0)
            go_wp2_with fail
            rw [← HP.out, e1]
            exact ⟨by simp [rvalOf, hw2], Hr.out, Hg.out⟩
        · have E1 : Hid (rdNumAt (k + 1) (a + m) u = res) := by
            have h := Hrd3.out
            rw [if_neg hc128] at h
            exact h
          have hcd : decide ((c.toNat : Int) < 128) = false := decide_eq_false (by omega)
          clear hc128
          by_cases hk0 : 0 < k
          all_goals
            first
            | (have t0 : decide (0 < k) = true := decide_eq_true (by omega)
               have t1 := hcz hk0
               clear hcz hk0)
            | (have t0 : decide (0 < k) = false := decide_eq_false (by omega)
               clear hcz hk0)
            go_wp2_with fail
            go_roundw
            case rel => exact ⟨k + 1, a + m, u, by go_num, by go_num, Hr.out, Hg.out, E1.out, Hn.out, by omega⟩
            case measure => simp [intOf]; omega

set_option maxHeartbeats 400000 in
theorem upTo_rs {b : Nat} {σ : St} {w : World} (most : Nat) (h : Rs w b σ) :
    Calls Try.prog 132 #[.pointer (some ⟨b, 0, none⟩), .int .i64 most] w
      (Steps b w vNat (stepV 0 (rdUpTo most) σ) (stepS (rdUpTo most) σ)) := by
  rw [stepV_upTo, stepS_upTo]
  obtain ⟨x, hx⟩ := hide (stepV 0 rdNum σ)
  obtain ⟨σ1, hs⟩ := hide (stepS rdNum σ)
  rw [hx.out, hs.out]
  have HN := Lib.hid (number_rs h)
  clear h
  obtain ⟨post, HP⟩ := hide (Steps b w vNat (if most < x then 0 else x) (if most < x then badS 4 σ1 else σ1))
  rw [HP.out]
  go_enter Try.func132, Try.ntmps132
  go_wp2_with fail
  refine HN.out.mono ?_
  rw [hx.out, hs.out]
  rintro e w' ⟨rfl, hr, hg⟩
  have Hr := Lib.hid hr
  have Hg := Lib.hid hg
  have HB := Lib.hid (bad_rs (z := 4) (by decide) hr)
  clear hr hg HN
  by_cases hc : most < x
  · have hd : decide (most < x) = true := decide_eq_true hc
    have e1 : Steps b w vNat 0 (badS 4 σ1) = post := by rw [← HP.out, if_pos hc, if_pos hc]
    subst e1
    clear hc HP
    go_wp2_with fail
    refine HB.out.mono ?_
    rintro e w2 ⟨rfl, hr, hg⟩
    have Hr2 := Lib.hid hr
    have Hg2 := Lib.hid hg
    clear hr hg
    go_wp2_with fail
    go_ret
    exact ⟨rfl, Hr2.out, grown_trans Hg.out Hg2.out⟩
  · have hd : decide (most < x) = false := decide_eq_false hc
    have e1 : Steps b w vNat x σ1 = post := by rw [← HP.out, if_neg hc, if_neg hc]
    subst e1
    clear hc HP HB
    go_wp2_with fail
    go_ret
    exact ⟨rfl, Hr.out, Hg.out⟩

set_option maxHeartbeats 400000 in
theorem text_rs {b : Nat} {σ : St} {w : World} (most : Nat) (h : Rs w b σ) :
    Calls Try.prog 94 #[.pointer (some ⟨b, 0, none⟩), .int .i64 most] w
      (Steps b w vStr (stepV [] (rdText most) σ) (stepS (rdText most) σ)) := by
  rw [stepV_text, stepS_text]
  obtain ⟨x, hx⟩ := hide (stepV 0 (rdUpTo most) σ)
  obtain ⟨σ1, hs⟩ := hide (stepS (rdUpTo most) σ)
  rw [hx.out, hs.out]
  have HN := Lib.hid (upTo_rs most h)
  clear h
  go_enter Try.func94, Try.ntmps94
  go_wp2_with fail
  refine HN.out.mono ?_
  rw [hx.out, hs.out]
  rintro e w' ⟨rfl, hr, hg⟩
  have Hg := Lib.hid hg
  have HB := Lib.hid (take_rs x hr)
  clear hr hg HN
  go_wp2_with fail
  refine HB.out.mono ?_
  rintro e w2 ⟨rfl, hr, hg⟩
  have Hr2 := Lib.hid hr
  have Hg2 := Lib.hid hg
  clear hr hg
  go_wp2_with fail
  go_ret
  exact ⟨rfl, Hr2.out, grown_trans Hg.out Hg2.out⟩

set_option maxHeartbeats 400000 in
theorem end_rs {b : Nat} {σ : St} {w : World} (h : Rs w b σ) :
    Calls Try.prog 85 #[.pointer (some ⟨b, 0, none⟩)] w
      (fun e w' => e = .returned (.int .i64 (endS σ)) ∧ w.grownBy w' (some b)) := by
  cases σ with
  | error y =>
    have h1 := h.1
    have hy : (y == 0) = false := beq_eq_false_iff_ne.2 h.2
    have c0 := two_cell0 h1
    have c1 := two_cell1 h1
    clear h h1
    go_enter Try.func85, Try.ntmps85
    go_wp2_with (go_quiet (fail))
    go_ret
    exact ⟨rfl, World.grownBy.refl _ _⟩
  | ok s =>
    have h1 := h.1
    have c0 := two_cell0 h1
    have c1 := two_cell1 h1
    have f1 := two_free (i := 1) h1
    clear h h1
    cases s with
    | nil =>
      go_enter Try.func85, Try.ntmps85
      go_wp2_with fail
      go_ret
      exact ⟨rfl, World.grownBy.refl _ _⟩
    | cons c s =>
      go_enter Try.func85, Try.ntmps85
      go_wp2_with fail
      go_ret
      exact ⟨rfl, grown_setCell _ _ _⟩

theorem Rs.lt {w : World} {b : Nat} {σ : St} (h : Rs w b σ) : b < w.heap.size := by cases σ <;> exact lt_of_block h.1
theorem Rs.kept {w w' : World} {b : Nat} {σ : St} {row : Option Nat} (h : Rs w b σ) (hg : w.grownBy w' row) (hne : some b ≠ row) : Rs w' b σ := by
  cases σ with
  | ok s => exact ⟨(hg.block b (lt_of_block h.1) hne).trans h.1, h.2⟩
  | error z => exact ⟨(hg.block b (lt_of_block h.1) hne).trans h.1, h.2⟩
end Go.Proofs.Ytbonmeogmjfkeaa
