/-
  Configurations: may one be? both ways.
-/
import Derived.Test.YtidiodlemjeelaaCx
import Derived.Test.YtidiodlemjeelaaGp
import Derived.Deep.QuietTactic
import Derived.BigQuiet
namespace Go.Proofs.Ytidiodlemjeelaa
open Go.RowKit Wm Mm
set_option linter.unusedVariables false

/-- may number i of a list stand there? -/
def okPrev (l : List Int) : Nat → Int → Bool
  | 0, _ => true
  | j + 1, x => match l[j]? with | none => true | some y => decide (y < x)
def okX (l : List Int) (i : Nat) (x : Int) : Bool := decide (1 ≤ x) && (decide (x ≤ 9) && okPrev l i x)
def okAt (l : List Int) (i : Nat) : Bool :=
  match l[i]? with
  | none => true
  | some x => okX l i x
def risingB (l : List Int) : Bool := (List.range l.length).all (okAt l)
theorem risingB_of {l : List Int} (h : ∀ i, i < l.length → okAt l i = true) : risingB l = true := by
  simpa [risingB] using h
theorem risingB_no {l : List Int} {i : Nat} (hi : i < l.length) (h : okAt l i = false) : risingB l = false := by
  simp only [risingB, List.all_eq_false, List.mem_range]
  exact ⟨i, hi, by simp [h]⟩
theorem ints_ne' {l : List Int} {k : Nat} (h : k < l.length) : l ≠ [] := by
  cases l with
  | nil => simp at h
  | cons _ _ => simp

set_option maxHeartbeats 1000000 in
theorem wire_nodes (v : Value) (l : List Int) (w : World) (hv : Ints w v l) :
    Calls Try.prog 162 #[v] w fun e w' => e = .returned (.bool (risingB l)) ∧ w = w' := by
  obtain ⟨ao, cap, rfl, hc, hm⟩ := hv
  have HC := Lib.hid hc
  obtain ⟨post, HP⟩ := hide (fun (e : Ending) (w' : World) => e = .returned (.bool (risingB l)) ∧ w = w')
  rw [HP.out]
  have hn : l.length ≤ 9223372036854775807 := hm
  clear hc hm
  go_enter Try.func162, Try.ntmps162
  go_wp2
  go_loopw [7] (fun i wr => ∃ k : Nat, i = .int .i64 k ∧ k ≤ l.length ∧ wr = w ∧ Hid (∀ i, i < k → okAt l i = true)) (fun i _ => l.length - (intOf i).toNat)
  case atStart => exact ⟨0, rfl, Nat.zero_le _, rfl, fun i h => by omega⟩
  case round =>
    obtain ⟨k, rfl, hk, rfl, hx⟩ := hrel
    by_cases hlt : k < l.length
    · obtain ⟨b, off, rfl, hcell⟩ := HC.out (ints_ne' hlt)
      have hck := hcell k l[k] (by simp [hlt])
      have hok : okAt l k = okX l k l[k] := by unfold okAt; rw [List.getElem?_eq_getElem hlt]
      obtain ⟨x, hX⟩ := hide l[k]
      rw [hX.out] at hck hok
      have Hok := Lib.hid hok
      have Hno : Hid (okAt l k = false → post (.returned (.bool false)) wr) := by
        show okAt l k = false → _
        intro h; rw [← HP.out]; exact ⟨by rw [risingB_no hlt h], rfl⟩
      have Hyes : Hid (okAt l k = true → ∀ i, i < k + 1 → okAt l i = true) := by
        show okAt l k = true → _
        intro h i hi
        rcases Nat.lt_or_eq_of_le (Nat.le_of_lt_succ hi) with h1 | rfl
        · exact hx.out i h1
        · exact h
      clear hok
      by_cases h1 : x < 1
      · have t1 : decide (x < 1) = true := decide_eq_true h1
        have Hk0 : Hid (okAt l k = false) := by show _ = _; rw [Hok.out, okX, decide_eq_false (by omega : ¬ 1 ≤ x)]; rfl
        clear h1 hcell
        go_wp2_with fail
        first | exact Hno.out Hk0.out | (go_ret; exact Hno.out Hk0.out)
      · have t1 : decide (x < 1) = false := decide_eq_false h1
        by_cases h9 : 9 < x
        · have t2 : decide (9 < x) = true := decide_eq_true h9
          have Hk0 : Hid (okAt l k = false) := by show _ = _; rw [Hok.out, okX, decide_eq_false (by omega : ¬ x ≤ 9), Bool.and_comm]; rfl
          clear h9 h1 hcell
          go_wp2_with fail
          first | exact Hno.out Hk0.out | (go_ret; exact Hno.out Hk0.out)
        · have t2 : decide (9 < x) = false := decide_eq_false h9
          cases k with
          | zero =>
            have Hk0 : Hid (okAt l 0 = true) := by show _ = _; rw [Hok.out, okX, decide_eq_true (by omega : 1 ≤ x), decide_eq_true (by omega : x ≤ 9)]; rfl
            clear h9 h1 hcell
            rw [show (((0 : Nat) : Int)) = 0 from rfl]
            rw [Nat.add_zero] at hck
            go_wp2_with fail
            go_roundw
            case rel => exact ⟨1, by go_num, hlt, (by first | rfl | trivial), Hyes.out Hk0.out⟩
            case measure => simp [intOf]; omega
          | succ m =>
            have hml : m < l.length := by omega
            have hcm := hcell m l[m] (by simp)
            have hok : okAt l (m + 1) = (decide (1 ≤ x) && (decide (x ≤ 9) && decide (l[m] < x))) := by rw [Hok.out, okX, okPrev, List.getElem?_eq_getElem hml]
            obtain ⟨y, hY⟩ := hide l[m]
            rw [hY.out] at hcm hok
            by_cases hxy : x ≤ y
            · have t3 : decide (x ≤ y) = true := decide_eq_true hxy
              have Hk0 : Hid (okAt l (m + 1) = false) := by show _ = _; rw [hok, decide_eq_false (by omega : ¬ y < x)]; simp
              clear h9 h1 hok hxy hcell
              go_wp2_with fail
              first | exact Hno.out Hk0.out | (go_ret; exact Hno.out Hk0.out)
            · have t3 : decide (x ≤ y) = false := decide_eq_false hxy
              have Hk0 : Hid (okAt l (m + 1) = true) := by show _ = _; rw [hok, decide_eq_true (by omega : y < x), decide_eq_true (by omega : 1 ≤ x), decide_eq_true (by omega : x ≤ 9)]; rfl
              clear h9 h1 hok hxy hcell
              go_wp2_with fail
              go_roundw
              case rel => exact ⟨m + 1 + 1, by go_num, hlt, (by first | rfl | trivial), Hyes.out Hk0.out⟩
              case measure => simp [intOf]; omega
    · have hkn : k = l.length := by omega
      have Hp : Hid (post (.returned (.bool true)) wr) := by
        show post _ _
        rw [← HP.out]; exact ⟨by rw [risingB_of (fun i hi => hx.out i (by omega))], rfl⟩
      clear hkn
      go_wp2_with fail
      first | exact Hp.out | (go_ret; exact Hp.out)
set_option maxHeartbeats 1000000 in
theorem ref_rising (v : Value) (l : List Int) (w : World) (hv : Ints w v l) :
    Calls Try.prog 163 #[v] w fun e w' => e = .returned (.bool (risingB l)) ∧ Below w.heap.size w w' := by
  obtain ⟨ao, cap, rfl, hc, hm⟩ := hv
  have HC := Lib.hid hc
  obtain ⟨post, HP⟩ := hide (fun (e : Ending) (w' : World) => e = .returned (.bool (risingB l)) ∧ Below w.heap.size w w')
  rw [HP.out]
  have hn : l.length ≤ 9223372036854775807 := hm
  clear hc hm
  go_enter Try.func163, Try.ntmps163
  go_wp2
  go_loopw [3] (fun i wr => ∃ k : Nat, i = .int .i64 k ∧ k ≤ l.length ∧ Hid (Below w.heap.size w wr) ∧ Hid (∀ i, i < k → okAt l i = true)) (fun i _ => l.length - (intOf i).toNat)
  case atStart => exact ⟨0, rfl, Nat.zero_le _, Below.refl _ _, fun i h => by omega⟩
  case round =>
    obtain ⟨k, rfl, hk, hb, hx⟩ := hrel
    by_cases hlt : k < l.length
    · obtain ⟨b, off, rfl, hcell⟩ := HC.out (ints_ne' hlt)
      have hcell : ∀ j x, l[j]? = some x → wr.cell? ⟨b, off + j, none⟩ = some (.int .i64 x) := fun j x hj => by
        rw [hb.out.cell (p := ⟨b, off + j, none⟩) (World.block_lt_of_cell? _ _ (hcell j x hj))]; exact hcell j x hj
      have hck := hcell k l[k] (by simp [hlt])
      have hok : okAt l k = okX l k l[k] := by unfold okAt; rw [List.getElem?_eq_getElem hlt]
      obtain ⟨x, hX⟩ := hide l[k]
      rw [hX.out] at hck hok
      have Hok := Lib.hid hok
      have Hno : Hid (okAt l k = false → ∀ w', Below w.heap.size w w' → post (.returned (.bool false)) w') := by
        show okAt l k = false → ∀ w', _ → _
        intro h w' hw; rw [← HP.out]; exact ⟨by rw [risingB_no hlt h], hw⟩
      have Hyes : Hid (okAt l k = true → ∀ i, i < k + 1 → okAt l i = true) := by
        show okAt l k = true → _
        intro h i hi
        rcases Nat.lt_or_eq_of_le (Nat.le_of_lt_succ hi) with h1 | rfl
        · exact hx.out i h1
        · exact h
      clear hok
      by_cases h1 : x < 1
      · have t1 : decide (x < 1) = true := decide_eq_true h1
        have Hk0 : Hid (okAt l k = false) := by show _ = _; rw [Hok.out, okX, decide_eq_false (by omega : ¬ 1 ≤ x)]; rfl
        clear h1 hcell
        go_wp2_with (go_quiet (fail))
        exact Hno.out Hk0.out _ (below_drewN hb.out _)
      · have t1 : decide (x < 1) = false := decide_eq_false h1
        by_cases h9 : 9 < x
        · have t2 : decide (9 < x) = true := decide_eq_true h9
          have Hk0 : Hid (okAt l k = false) := by show _ = _; rw [Hok.out, okX, decide_eq_false (by omega : ¬ x ≤ 9), Bool.and_comm]; rfl
          clear h9 h1 hcell
          go_wp2_with (go_quiet (fail))
          exact Hno.out Hk0.out _ (below_drewN hb.out _)
        · have t2 : decide (9 < x) = false := decide_eq_false h9
          cases k with
          | zero =>
            have Hk0 : Hid (okAt l 0 = true) := by show _ = _; rw [Hok.out, okX, decide_eq_true (by omega : 1 ≤ x), decide_eq_true (by omega : x ≤ 9)]; rfl
            clear h9 h1 hcell
            rw [show (((0 : Nat) : Int)) = 0 from rfl]
            rw [Nat.add_zero] at hck
            go_wp2_with (go_quiet (fail))
            go_roundw
            case rel => exact ⟨1, by go_num, hlt, below_drewN hb.out _, Hyes.out Hk0.out⟩
            case measure => simp [intOf]; omega
          | succ m =>
            have hml : m < l.length := by omega
            have hcm := hcell m l[m] (by simp)
            have hok : okAt l (m + 1) = (decide (1 ≤ x) && (decide (x ≤ 9) && decide (l[m] < x))) := by rw [Hok.out, okX, okPrev, List.getElem?_eq_getElem hml]
            obtain ⟨y, hY⟩ := hide l[m]
            rw [hY.out] at hcm hok
            by_cases hxy : x ≤ y
            · have t3 : decide (x ≤ y) = true := decide_eq_true hxy
              have Hk0 : Hid (okAt l (m + 1) = false) := by show _ = _; rw [hok, decide_eq_false (by omega : ¬ y < x)]; simp
              clear h9 h1 hok hxy hcell
              go_wp2_with (go_quiet (fail))
              exact Hno.out Hk0.out _ (below_drewN hb.out _)
            · have t3 : decide (x ≤ y) = false := decide_eq_false hxy
              have Hk0 : Hid (okAt l (m + 1) = true) := by show _ = _; rw [hok, decide_eq_true (by omega : y < x), decide_eq_true (by omega : 1 ≤ x), decide_eq_true (by omega : x ≤ 9)]; rfl
              clear h9 h1 hok hxy hcell
              go_wp2_with (go_quiet (fail))
              go_roundw
              case rel => exact ⟨m + 1 + 1, by go_num, hlt, below_drewN hb.out _, Hyes.out Hk0.out⟩
              case measure => simp [intOf]; omega
    · have hkn : k = l.length := by omega
      have Hp : Hid (post (.returned (.bool true)) wr) := by
        show post _ _
        rw [← HP.out]; exact ⟨by rw [risingB_of (fun i hi => hx.out i (by omega))], hb.out⟩
      clear hkn
      go_wp2_with fail
      first | exact Hp.out | (go_ret; exact Hp.out)
end Go.Proofs.Ytidiodlemjeelaa
