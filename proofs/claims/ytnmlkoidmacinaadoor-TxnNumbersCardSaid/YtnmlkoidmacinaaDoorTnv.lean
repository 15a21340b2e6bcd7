/-
  Numbers of keys: the program's reading: a number as a text.
-/
import Derived.Test.YtnmlkoidmacinaaDoorShelf
import Derived.Test.YtnmlkoidmacinaaDoorTnu
import Derived.Test.YtnmlkoidmacinaaDoorKr
import Derived.Lib.AppendIntMem
namespace Go.Proofs.YtnmlkoidmacinaaDoor
open Go.RowKit Wm Mm Tn
set_option linter.unusedVariables false
set_option linter.unusedSimpArgs false

/-- what the library's variables hold -/
structure VarsOk (w : World) : Prop where
  m : ∃ m, w.cell? ⟨0, 0, none⟩ = some (.int .i64 m)
  s : ∃ te pe, w.cell? ⟨1, 0, none⟩ = some (.iface te pe)
  r : ∃ te pe, w.cell? ⟨2, 0, none⟩ = some (.iface te pe)
  t : Lib.TabIs Tryd.prog w "internal/strconv.uint64pow10" .u64 Lib.pow10Tab
theorem VarsOk.below {w w' : World} (h : VarsOk w) (hb : Below w.heap.size w w') : VarsOk w' := by
  obtain ⟨⟨m, hm⟩, ⟨te, pe, hs⟩, ⟨tr, pr, hr⟩, ht⟩ := h
  exact ⟨⟨m, (hb.cell (lt_of_cell hm)).trans hm⟩, ⟨te, pe, (hb.cell (lt_of_cell hs)).trans hs⟩, ⟨tr, pr, (hb.cell (lt_of_cell hr)).trans hr⟩, Lib.tabBelow_of_tabIs ht w' hb⟩
theorem itoa_law (n : Int) (h0 : -9223372036854775808 ≤ n) (h1 : n ≤ 9223372036854775807) (w : World) (hv : VarsOk w) : Calls Tryd.prog 42 #[.int .i64 n] w fun e w' => e = .returned (str (Lib.itoa n)) ∧ Below w.heap.size w w' :=
  (Tryd.strconv_Itoa n h0 h1 w hv.t).mono fun e w' ⟨he, k, os, hw⟩ => ⟨he, by rw [hw]; exact Lib.below_grow _ w (Nat.le_refl _) k os⟩
theorem atoi_ok (s : List UInt8) (hs : s.length ≤ 281474976710656) (v : Int) (h : Lib.atoiAll s = .ok v) (w : World) : Calls Tryd.prog 57 #[str s] w fun e w' => e = .returned (.tuple #[.int .i64 v, .nilIface]) ∧ Below w.heap.size w w' :=
  (Tryd.strconv_Atoi_ok ⟨s.toArray⟩ (by show s.toArray.size ≤ _; simp; omega) v (by simpa using h) w).mono fun e w' ⟨he, hw⟩ => ⟨he, by
    rcases hw with rfl | ⟨t, rfl⟩
    · exact Below.refl _ _
    · exact Lib.bytesWorld_below _ _ _⟩
theorem atoi_bad (s : List UInt8) (hs : s.length ≤ 281474976710656) (h : ∀ v, Lib.atoiAll s ≠ .ok v) (w : World) (hv : VarsOk w) : Calls Tryd.prog 57 #[str s] w fun e w' => ∃ (n : Int) (N : Nat), e = .returned (.tuple #[.int .i64 n, .iface 137 (.pointer (some ⟨N, 0, none⟩))]) ∧ Below w.heap.size w w' := by
  have hl : (⟨s.toArray⟩ : ByteArray).size ≤ 281474976710656 := by show s.toArray.size ≤ _; simpa using hs
  obtain ⟨te, pe, h1⟩ := hv.s
  obtain ⟨tr, pr, h2⟩ := hv.r
  cases ha : Lib.atoiAll s
  · exact absurd ha (h _)
  · exact (Any.strconv_Atoi_syntax Tryd.laysC172 ⟨s.toArray⟩ hl (by simpa using ha) _ w h1 (Or.inr ⟨_, _, rfl⟩)).mono fun e w' ⟨N, he, _, _, hb⟩ => ⟨_, N, he, hb⟩
  · exact (Any.strconv_Atoi_range Tryd.laysC172 ⟨s.toArray⟩ hl (by simpa using ha) _ w h2 (Or.inr ⟨_, _, rfl⟩)).mono fun e w' ⟨N, he, _, _, hb⟩ => ⟨_, N, he, hb⟩

set_option maxHeartbeats 1000000 in
/-- a text as a number -/
theorem number_law (s : List UInt8) (most : Nat) (hm : most ≤ 999999999) (hs : s.length ≤ 1048576) (w : World) (hv : VarsOk w) :
    Calls Tryd.prog 41 #[str s, .int .i64 (most : Int)] w fun e w' => (∃ n : Int, e = .returned (.tuple #[.int .i64 n, .bool (amountB most s).isSome]) ∧ ∀ k : Nat, amountB most s = some k → n = k) ∧ Below w.heap.size w w' := by
  obtain ⟨post, HP⟩ := hide (fun (e : Ending) (w' : World) => (∃ n : Int, e = .returned (.tuple #[.int .i64 n, .bool (amountB most s).isSome]) ∧ ∀ k : Nat, amountB most s = some k → n = k) ∧ Below w.heap.size w w')
  rw [HP.out]
  have hmi : (most : Int) ≤ 999999999 := by omega
  by_cases hok : ∃ v, Lib.atoiAll s = .ok v
  · obtain ⟨v, hk⟩ := hok
    have hb := Lib.atoiAll_bounds hk
    have HAt := Lib.hid (atoi_ok s (by omega) v hk w)
    have HIt : Hid (∀ w1, Below w.heap.size w w1 → Calls Tryd.prog 42 #[.int .i64 v] w1 fun e w' => e = .returned (str (Lib.itoa v)) ∧ Below w1.heap.size w1 w') := fun w1 h1 => itoa_law v hb.1 hb.2 w1 (hv.below h1)
    have HN : Hid (amountB most s = if 0 ≤ v ∧ v ≤ most ∧ Lib.itoa v = s then some v.toNat else none) := by
      show _ = _
      rw [← numB_eq hm]
      unfold numB
      rw [hk]
    have HE : Hid (∀ (b : Bool) w1, Below w.heap.size w w1 → b = decide (0 ≤ v ∧ v ≤ most ∧ Lib.itoa v = s) → post (.returned (.tuple #[.int .i64 v, .bool b])) w1) := by
      show ∀ b w1, _ → _ → _
      intro b w1 h1 h2
      rw [← HP.out]
      refine ⟨⟨v, ?_, ?_⟩, h1⟩
      · rw [HN.out, h2]
        by_cases h3 : 0 ≤ v ∧ v ≤ most ∧ Lib.itoa v = s
        · rw [if_pos h3, decide_eq_true h3]; rfl
        · rw [if_neg h3, decide_eq_false h3]; rfl
      · intro k hk2
        rw [HN.out] at hk2
        split at hk2
        · rename_i h3
          injection hk2 with hk2
          omega
        · cases hk2
    clear hk hv
    obtain ⟨it, hit⟩ := hide (Lib.itoa v)
    rw [hit.out] at HIt HE
    clear HN
    go_enter Tryd.func41, Tryd.ntmps41
    go_wp2_with fail
    refine HAt.out.mono ?_
    rintro e w1 ⟨rfl, hb1⟩
    have Hb1 := Lib.hid hb1
    clear hb1
    dsimp only
    by_cases h0 : 0 ≤ v
    · have t0 : decide (0 ≤ v) = true := decide_eq_true h0
      by_cases h1 : v ≤ (most : Int)
      · have t1 : decide (v ≤ (most : Int)) = true := decide_eq_true h1
        go_wp2_with (go_at_call 42; refine (HIt.out _ Hb1.out).mono ?_; rintro e w2 ⟨rfl, hb2⟩)
        cases h2 : it == s
        · go_wp2_with fail
          exact HE.out _ _ (Hb1.out.trans (hb2.mono Hb1.out.size)) (by rw [decide_eq_false (fun h => by rw [h.2.2] at h2; simp at h2)])
        · go_wp2_with fail
          exact HE.out _ _ (Hb1.out.trans (hb2.mono Hb1.out.size)) (by rw [decide_eq_true ⟨h0, h1, eq_of_beq h2⟩])
      · have t1 : decide (v ≤ (most : Int)) = false := decide_eq_false h1
        have HF1 : Hid (false = decide (0 ≤ v ∧ v ≤ (most : Int) ∧ it = s)) := (decide_eq_false (fun h => h1 h.2.1)).symm
        go_wp2_with fail
        exact HE.out _ _ Hb1.out HF1.out
    · have t0 : decide (0 ≤ v) = false := decide_eq_false h0
      have HF0 : Hid (false = decide (0 ≤ v ∧ v ≤ (most : Int) ∧ it = s)) := (decide_eq_false (fun h => h0 h.1)).symm
      go_wp2_with fail
      exact HE.out _ _ Hb1.out HF0.out
  · have HAt := Lib.hid (atoi_bad s (by omega) (fun v h => hok ⟨v, h⟩) w hv)
    have HE : Hid (∀ (n : Int) w1, Below w.heap.size w w1 → post (.returned (.tuple #[.int .i64 n, .bool false])) w1) := by
      show ∀ n w1, _ → _
      intro n w1 h1
      rw [← HP.out]
      have hN : amountB most s = none := by
        rw [← numB_eq hm]
        unfold numB
        cases ha : Lib.atoiAll s
        · exact absurd ⟨_, ha⟩ hok
        · rfl
        · rfl
      rw [hN]
      exact ⟨⟨n, rfl, fun k hk => by cases hk⟩, h1⟩
    clear hok hv
    go_enter Tryd.func41, Tryd.ntmps41
    go_wp2_with fail
    refine HAt.out.mono ?_
    rintro e w1 ⟨n, N, rfl, hb1⟩
    have Hb1 := Lib.hid hb1
    clear hb1
    dsimp only
    go_wp2_with fail
    exact HE.out _ _ Hb1.out

/-! a text as what a key holds -/
theorem split_law (s : List UInt8) (hs : s.length ≤ 1048576) (w : World) (hv : VarsOk w) : Calls Tryd.prog 40 #[str s, str [32]] w fun e w' => e = .returned (.slice (some ⟨w.heap.size, 0, none⟩) (spc [] s).length (spc [] s).length) ∧ w' = w.alloc (.cells ((spc [] s).map str).toArray 9) := by
  obtain ⟨m, hm⟩ := hv.m
  have hd := Lib.splitB_data ⟨([32] : List UInt8).toArray⟩ 0 (Lib.countB ⟨s.toArray⟩ ⟨([32] : List UInt8).toArray⟩) ⟨s.toArray⟩
  have hc : Lib.countB ⟨s.toArray⟩ ⟨([32] : List UInt8).toArray⟩ = Lib.countFrom [32] (s.length + 1) s := by
    show Lib.count _ _ = _
    unfold Lib.count
    simp
  have hk := splitK_spc (s.length + 1) s (Nat.lt_succ_self _)
  rw [← hc] at hk
  have hd2 : (Lib.splitB ⟨([32] : List UInt8).toArray⟩ 0 (Lib.countB ⟨s.toArray⟩ ⟨([32] : List UInt8).toArray⟩) ⟨s.toArray⟩).map (·.data.toList) = spc [] s := by
    rw [hd, ← hk]
  have hl : Lib.countB ⟨s.toArray⟩ ⟨([32] : List UInt8).toArray⟩ + 1 = (spc [] s).length := by
    rw [← hd2, List.length_map, Lib.splitB_all ⟨([32] : List UInt8).toArray⟩ (by decide) 0 _ _ rfl]
  have hm2 : (Lib.splitB ⟨([32] : List UInt8).toArray⟩ 0 (Lib.countB ⟨s.toArray⟩ ⟨([32] : List UInt8).toArray⟩) ⟨s.toArray⟩).map Value.string = (spc [] s).map str := by
    rw [← hd2, List.map_map]
    rfl
  have h := Tryd.strings_Split ⟨s.toArray⟩ ⟨([32] : List UInt8).toArray⟩ m w (by show s.toArray.size < _; simp; omega) hm (by decide)
  rw [hl, hm2] at h
  exact h
/-- how the loop over the three places stands -/
def RdInv (l : List (List UInt8)) (k : Nat) (ok : Bool) (xs : List Value) : Prop :=
  ok = okK l k ∧ (∃ a b c : Int, xs = [.int .i64 a, .int .i64 b, .int .i64 c]) ∧ (ok = true → ∀ j, j < 3 → xs[j]? = some (.int .i64 (if j < k then (((valAt l j).getD 0 : Nat) : Int) else 0)))
theorem RdInv.zero (l : List (List UInt8)) : RdInv l 0 (okLen l) [.int .i64 0, .int .i64 0, .int .i64 0] := by
  refine ⟨by simp [okK], ⟨0, 0, 0, rfl⟩, fun _ j hj => ?_⟩
  match j, hj with
  | 0, _ => rfl
  | 1, _ => rfl
  | 2, _ => rfl
theorem RdInv.skip {l : List (List UInt8)} {k : Nat} {ok : Bool} {xs : List Value} (h : RdInv l k ok xs) (hs : l.length ≤ k ∨ ok = false) : RdInv l (k + 1) ok xs := by
  obtain ⟨h1, h2, h3⟩ := h
  refine ⟨?_, h2, fun ho j hj => ?_⟩
  · rw [okK_succ, ← h1]
    rcases hs with hs | hs
    · have : valAt l k = some 0 := by unfold valAt; rw [List.getElem?_eq_none hs]
      rw [this]; simp
    · rw [hs]; rfl
  · have h4 := h3 ho j hj
    rw [h4]
    by_cases hjk : j < k
    · rw [if_pos hjk, if_pos (by omega)]
    · by_cases hjk2 : j < k + 1
      · obtain rfl : j = k := by omega
        rw [if_neg hjk, if_pos hjk2]
        rcases hs with hs | hs
        · have : valAt l j = some 0 := by unfold valAt; rw [List.getElem?_eq_none hs]
          rw [this]; rfl
        · rw [hs] at ho; cases ho
      · rw [if_neg hjk, if_neg hjk2]
theorem RdInv.step {l : List (List UInt8)} {k : Nat} {xs : List Value} (h : RdInv l k true xs) (hk : k < l.length) (hk3 : k < 3) {n : Int} (hn : ∀ m : Nat, amountB (mostAt k) l[k] = some m → n = m) : RdInv l (k + 1) (amountB (mostAt k) l[k]).isSome (xs.set k (.int .i64 n)) := by
  obtain ⟨h1, ⟨a, b, c, rfl⟩, h3⟩ := h
  have hv : valAt l k = amountB (mostAt k) l[k] := by unfold valAt; rw [List.getElem?_eq_getElem hk]
  refine ⟨by rw [okK_succ, ← h1, hv]; rfl, ?_, fun ho j hj => ?_⟩
  · match k, hk3 with
    | 0, _ => exact ⟨n, b, c, rfl⟩
    | 1, _ => exact ⟨a, n, c, rfl⟩
    | 2, _ => exact ⟨a, b, n, rfl⟩
  · obtain ⟨m, hm⟩ := Option.isSome_iff_exists.1 ho
    rw [List.getElem?_set]
    by_cases hjk : k = j
    · subst hjk
      rw [if_pos rfl, if_pos (by simpa using hk3), if_pos (by omega), hv, hm, hn m hm]
      rfl
    · rw [if_neg hjk, h3 rfl j hj]
      by_cases h5 : j < k
      · rw [if_pos h5, if_pos (by omega)]
      · rw [if_neg h5, if_neg (by omega)]
/-- what a text says, three numbers -/
def heldC (s : List UInt8) : List Value := [.int .i64 ((heldV s).1 : Int), .int .i64 ((heldV s).2.1 : Int), .int .i64 ((heldV s).2.2 : Int)]
theorem RdInv.end {s : List UInt8} {ok : Bool} {xs : List Value} (h : RdInv (spc [] s) 3 ok xs) : ok = okK (spc [] s) 3 ∧ ∃ a b c : Int, xs = [.int .i64 a, .int .i64 b, .int .i64 c] ∧ (ok = true → b = (((valAt (spc [] s) 1).getD 0 : Nat) : Int)) ∧
    (ok = true → ¬ ((spc [] s).length = 3 ∧ b = 0) → heldC s = [.int .i64 a, .int .i64 b, .int .i64 c]) ∧ (ok = false ∨ ((spc [] s).length = 3 ∧ b = 0) → heldC s = [.int .i64 0, .int .i64 0, .int .i64 0]) := by
  obtain ⟨h1, ⟨a, b, c, rfl⟩, h3⟩ := h
  have hh := heldV_prog s
  refine ⟨h1, a, b, c, rfl, ?_, ?_, ?_⟩
  · intro ho
    have := h3 ho 1 (by decide)
    simp at this
    exact this
  · intro ho hn
    have e0 := h3 ho 0 (by decide)
    have e1 := h3 ho 1 (by decide)
    have e2 := h3 ho 2 (by decide)
    simp at e0 e1 e2
    rw [← h1, ho] at hh
    rw [if_pos (by
      simp only [Bool.true_and, Bool.not_eq_true', Bool.and_eq_false_imp, decide_eq_true_eq, decide_eq_false_iff_not]
      intro h5 h6
      exact hn ⟨h5, by rw [e1, h6]; rfl⟩)] at hh
    unfold heldC
    rw [hh, e0, e1, e2]
  · intro hz
    have : heldV s = (0, 0, 0) := by
      rw [hh, if_neg]
      intro h5
      rw [Bool.and_eq_true] at h5
      rcases hz with hz | ⟨h6, h7⟩
      · rw [← h1, hz] at h5; cases h5.1
      · have ho : ok = true := by rw [h1]; exact h5.1
        have e1 := h3 ho 1 (by decide)
        simp at e1
        have : (valAt (spc [] s) 1).getD 0 = 0 := by omega
        rw [decide_eq_true h6, decide_eq_true this] at h5
        simp at h5
    unfold heldC
    rw [this]
    rfl
end Go.Proofs.YtnmlkoidmacinaaDoor
