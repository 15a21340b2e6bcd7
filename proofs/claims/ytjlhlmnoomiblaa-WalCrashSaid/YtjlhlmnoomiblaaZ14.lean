/-
  Configurations: may one be? both ways. Is a number in a list? are two lists the same? both ways.
-/
import Derived.Test.YtjlhlmnoomiblaaZ03
import Derived.Test.YtjlhlmnoomiblaaZ13
import Derived.Deep.QuietTactic
import Derived.BigQuiet
namespace Go.Proofs.Ytjlhlmnoomiblaa
open Go.RowKit Wm Mm
set_option linter.unusedVariables false

/-- may number i of a list stand there? -/
def okPrev (l : List Int) : Nat → Int → Bool
  | 0, _ => true
  | j + 1, x => match l[j]? with | none => true | some y => decide (y < x)
def okX (l : List Int) (i : Nat) (x : Int) : Bool := decide (1 ≤ x) && (decide (x ≤ 9) && okPrev l i x)
def okAt (l : List Int) (i : Nat) : Bool :=
  match l[i]? with
  | none => true
  | some x => okX l i x
def risingB (l : List Int) : Bool := (List.range l.length).all (okAt l)
theorem risingB_of {l : List Int} (h : ∀ i, i < l.length → okAt l i = true) : risingB l = true := by
  simpa [risingB] using h
theorem risingB_no {l : List Int} {i : Nat} (hi : i < l.length) (h : okAt l i = false) : risingB l = false := by
  simp only [risingB, List.all_eq_false, List.mem_range]
  exact ⟨i, hi, by simp [h]⟩
theorem ints_ne' {l : List Int} {k : Nat} (h : k < l.length) : l ≠ [] := by
  cases l with
  | nil => simp at h
  | cons _ _ => simp

set_option maxHeartbeats 1000000 in
theorem wire_nodes (v : Value) (l : List Int) (w : World) (hv : Ints w v l) :
    Calls Try.prog 35 #[v] w fun e w' => e = .returned (.bool (risingB l)) ∧ w = w' := by
  obtain ⟨ao, cap, rfl, hc, hm⟩ := hv
  have HC := Lib.hid hc
  obtain ⟨post, HP⟩ := hide (fun (e : Ending) (w' : World) => e = .returned (.bool (risingB l)) ∧ w = w')
  rw [HP.out]
  have hn : l.length ≤ 9223372036854775807 := hm
  clear hc hm
  go_enter Try.func35, Try.ntmps35
  go_wp2
  go_loopw [7] (fun i wr => ∃ k : Nat, i = .int .i64 k ∧ k ≤ l.length ∧ wr = w ∧ Hid (∀ i, i < k → okAt l i = true)) (fun i _ => l.length - (intOf i).toNat)
  case atStart => exact ⟨0, rfl, Nat.zero_le _, rfl, fun i h => by omega⟩
  case round =>
    obtain ⟨k, rfl, hk, rfl, hx⟩ := hrel
    by_cases hlt : k < l.length
    · obtain ⟨b, off, rfl, hcell⟩ := HC.out (ints_ne' hlt)
      have hck := hcell k l[k] (by simp [hlt])
      have hok : okAt l k = okX l k l[k] := by unfold okAt; rw [List.getElem?_eq_getElem hlt]
      obtain ⟨x, hX⟩ := hide l[k]
      rw [hX.out] at hck hok
      have Hok := Lib.hid hok
      have Hno : Hid (okAt l k = false → post (.returned (.bool false)) wr) := by
        show okAt l k = false → _
        intro h; rw [← HP.out]; exact ⟨by rw [risingB_no hlt h], rfl⟩
      have Hyes : Hid (okAt l k = true → ∀ i, i < k + 1 → okAt l i = true) := by
        show okAt l k = true → _
        intro h i hi
        rcases Nat.lt_or_eq_of_le (Nat.le_of_lt_succ hi) with h1 | rfl
        · exact hx.out i h1
        · exact h
      clear hok
      by_cases h1 : x < 1
      · have t1 : decide (x < 1) = true := decide_eq_true h1
        have Hk0 : Hid (okAt l k = false) := by show _ = _; rw [Hok.out, okX, decide_eq_false (by omega : ¬ 1 ≤ x)]; rfl
        clear h1 hcell
        go_wp2_with fail
        first | exact Hno.out Hk0.out | (go_ret; exact Hno.out Hk0.out)
      · have t1 : decide (x < 1) = false := decide_eq_false h1
        by_cases h9 : 9 < x
        · have t2 : decide (9 < x) = true := decide_eq_true h9
          have Hk0 : Hid (okAt l k = false) := by show _ = _; rw [Hok.out, okX, decide_eq_false (by omega : ¬ x ≤ 9), Bool.and_comm]; rfl
          clear h9 h1 hcell
          go_wp2_with fail
          first | exact Hno.out Hk0.out | (go_ret; exact Hno.out Hk0.out)
        · have t2 : decide (9 < x) = false := decide_eq_false h9
          cases k with
          | zero =>
            have Hk0 : Hid (okAt l 0 = true) := by show _ = _; rw [Hok.out, okX, decide_eq_true (by omega : 1 ≤ x), decide_eq_true (by omega : x ≤ 9)]; rfl
            clear h9 h1 hcell
            rw [show (((0 : Nat) : Int)) = 0 from rfl]
            rw [Nat.add_zero] at hck
            go_wp2_with fail
            go_roundw
            case rel => exact ⟨1, by go_num, hlt, (by first | rfl | trivial), Hyes.out Hk0.out⟩
            case measure => simp [intOf]; omega
          | succ m =>
            have hml : m < l.length := by omega
            have hcm := hcell m l[m] (by simp)
            have hok : okAt l (m + 1) = (decide (1 ≤ x) && (decide (x ≤ 9) && decide (l[m] < x))) := by rw [Hok.out, okX, okPrev, List.getElem?_eq_getElem hml]
            obtain ⟨y, hY⟩ := hide l[m]
            rw [hY.out] at hcm hok
            by_cases hxy : x ≤ y
            · have t3 : decide (x ≤ y) = true := decide_eq_true hxy
              have Hk0 : Hid (okAt l (m + 1) = false) := by show _ = _; rw [hok, decide_eq_false (by omega : ¬ y < x)]; simp
              clear h9 h1 hok hxy hcell
              go_wp2_with fail
              first | exact Hno.out Hk0.out | (go_ret; exact Hno.out Hk0.out)
            · have t3 : decide (x ≤ y) = false := decide_eq_false hxy
              have Hk0 : Hid (okAt l (m + 1) = true) := by show _ = _; rw [hok, decide_eq_true (by omega : y < x), decide_eq_true (by omega : 1 ≤ x), decide_eq_true (by omega : x ≤ 9)]; rfl
              clear h9 h1 hok hxy hcell
              go_wp2_with fail
              go_roundw
              case rel => exact ⟨m + 1 + 1, by go_num, hlt, (by first | rfl | trivial), Hyes.out Hk0.out⟩
              case measure => simp [intOf]; omega
    · have hkn : k = l.length := by omega
      have Hp : Hid (post (.returned (.bool true)) wr) := by
        show post _ _
        rw [← HP.out]; exact ⟨by rw [risingB_of (fun i hi => hx.out i (by omega))], rfl⟩
      clear hkn
      go_wp2_with fail
      first | exact Hp.out | (go_ret; exact Hp.out)
end Go.Proofs.Ytjlhlmnoomiblaa

namespace Go.Proofs.Ytjlhlmnoomiblaa
open Go.RowKit Wm Mm
set_option linter.unusedVariables false

def hasB (l : List Int) (n : Int) : Bool := l.any (· == n)
theorem hasB_no {l : List Int} {n : Int} (h : ∀ i x, i < l.length → l[i]? = some x → (x == n) = false) : hasB l n = false := by
  simp only [hasB, List.any_eq_false]
  intro x hx
  obtain ⟨i, hi, rfl⟩ := List.getElem_of_mem hx
  simp [h i l[i] hi (by simp)]
theorem hasB_yes {l : List Int} {n : Int} {k : Nat} (hk : k < l.length) (h : (l[k] == n) = true) : hasB l n = true := by
  simp only [hasB, List.any_eq_true]
  exact ⟨l[k], List.getElem_mem _, h⟩

set_option maxHeartbeats 1000000 in
theorem slices_index (v : Value) (l : List Int) (n : Int) (w : World) (hv : Ints w v l) :
    Calls Try.prog 52 #[v, .int .i64 n] w fun e w' => (∃ r : Int, e = .returned (.int .i64 r) ∧ decide (0 ≤ r) = hasB l n) ∧ w = w' := by
  obtain ⟨ao, cap, rfl, hc, hm⟩ := hv
  have HC := Lib.hid hc
  obtain ⟨post, HP⟩ := hide (fun (e : Ending) (w' : World) => (∃ r : Int, e = .returned (.int .i64 r) ∧ decide (0 ≤ r) = hasB l n) ∧ w = w')
  rw [HP.out]
  have hn : l.length ≤ 9223372036854775807 := hm
  clear hc hm
  go_enter Try.func52, Try.ntmps52
  go_wp2
  go_loopw [8] (fun i wr => ∃ k : Nat, i = .int .i64 k ∧ k ≤ l.length ∧ wr = w ∧ Hid (∀ i x, i < k → l[i]? = some x → (x == n) = false)) (fun i _ => l.length - (intOf i).toNat)
  case atStart => exact ⟨0, rfl, Nat.zero_le _, rfl, fun i x h => by omega⟩
  case round =>
    obtain ⟨k, rfl, hk, rfl, hx⟩ := hrel
    by_cases hlt : k < l.length
    · obtain ⟨b, off, rfl, hcell⟩ := HC.out (ints_ne' hlt)
      have hck := hcell k l[k] (by simp [hlt])
      have Hyes : Hid ((l[k] == n) = true → post (.returned (.int .i64 k)) wr) := by
        show _ → _
        intro h
        rw [← HP.out]; exact ⟨⟨k, rfl, by rw [hasB_yes hlt h]; exact decide_eq_true (by omega)⟩, rfl⟩
      have Hno : Hid ((l[k] == n) = false → ∀ i x, i < k + 1 → l[i]? = some x → (x == n) = false) := by
        show _ → ∀ i x, _ → _ → _
        intro h i x hi hix
        rcases Nat.lt_or_eq_of_le (Nat.le_of_lt_succ hi) with h1 | rfl
        · exact hx.out i x h1 hix
        · rw [List.getElem?_eq_getElem hlt] at hix; cases hix; exact h
      obtain ⟨x, hX⟩ := hide l[k]
      rw [hX.out] at hck Hno Hyes
      clear hcell
      by_cases he : x = n
      · have t1 : (x == n) = true := by simp [he]
        have t2 : (n == x) = true := by simp [he]
        have Hp := Lib.hid (Hyes.out t1)
        clear he
        go_wp2_with fail
        exact Hp.out
      · have t1 : (x == n) = false := by simp [he]
        have t2 : (n == x) = false := by simp; omega
        have Hp := Lib.hid (Hno.out t1)
        clear he
        go_wp2_with fail
        go_roundw
        case rel => exact ⟨k + 1, by go_num, hlt, (by first | rfl | trivial), Hp.out⟩
        case measure => simp [intOf]; omega
    · have hkn : k = l.length := by omega
      have Hp : Hid (post (.returned (.int .i64 (-1))) wr) := by
        show post _ _
        rw [← HP.out]; exact ⟨⟨-1, rfl, by rw [hasB_no (fun i x hi hix => hx.out i x (by omega) hix)]; rfl⟩, rfl⟩
      clear hkn
      go_wp2_with fail
      exact Hp.out

set_option maxHeartbeats 1000000 in
theorem slices_contains (v : Value) (l : List Int) (n : Int) (w : World) (hv : Ints w v l) :
    Calls Try.prog 36 #[v, .int .i64 n] w fun e w' => e = .returned (.bool (hasB l n)) ∧ w = w' := by
  have HI := Lib.hid (slices_index v l n w hv)
  clear hv
  go_enter Try.func36, Try.ntmps36
  go_wp2_with fail
  refine HI.out.mono ?_
  rintro e w' ⟨⟨r, rfl, hr⟩, rfl⟩
  go_wp2_with fail
  go_ret
  exact ⟨by rw [← hr]; rfl, rfl⟩

end Go.Proofs.Ytjlhlmnoomiblaa
