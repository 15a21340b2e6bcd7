/-
  Are two lists of numbers the same? the library's Equal, walked.
-/
import Derived.Test.YtgdmcbjlfnjhjaaCg
namespace Go.Proofs.Ytgdmcbjlfnjhjaa
open Go.RowKit Wm Mm
set_option linter.unusedVariables false
set_option linter.unusedSimpArgs false

set_option maxHeartbeats 1000000 in
theorem slices_eqI (u v : Value) (a b : List Int) (w : World) (hu : Ints w u a) (hv : Ints w v b) :
    Calls Try.prog 70 #[u, v] w fun e w' => e = .returned (.bool (decide (a = b))) ∧ Below w.heap.size w w' := by
  obtain ⟨ao, ca, rfl, hca, hma⟩ := hu
  obtain ⟨bo, cb, rfl, hcb, hmb⟩ := hv
  obtain ⟨res, HR⟩ := hide (decide (a = b))
  rw [HR.out]
  have HA := Lib.hid hca
  have HB := Lib.hid hcb
  unfold maxLen at hma hmb
  clear hca hcb
  by_cases hlen : a.length = b.length
  · have hd : ((a.length : Int) != (b.length : Int)) = false := by rw [bne_eq_false_iff_eq]; omega
    have Hlen := Lib.hid hlen
    clear hlen
    go_enter Try.func70, Try.ntmps70
    go_wp2
    go_loopw [13] (fun i wr => ∃ k : Nat, i = .int .i64 k ∧ k ≤ a.length ∧ Hid (a.take k = b.take k) ∧ Hid (Below w.heap.size w wr)) (fun i _ => a.length - (intOf i).toNat)
    case atStart => exact ⟨0, rfl, Nat.zero_le _, rfl, Below.refl _ _⟩
    case round =>
      obtain ⟨k, rfl, hk, he, hb⟩ := hrel
      by_cases hlt : k < a.length
      · have hltb : k < b.length := by rw [← Hlen.out]; exact hlt
        obtain ⟨ba, oa, rfl, hcella⟩ := HA.out (by intro h; rw [h] at hlt; simp at hlt)
        obtain ⟨bb, ob, rfl, hcellb⟩ := HB.out (by intro h; rw [h] at hltb; simp at hltb)
        have ha := hcella k a[k] (by simp [hlt])
        have hb2 := hcellb k b[k] (by simp [hltb])
        have hcwa : wr.cell? ⟨ba, oa + k, none⟩ = some (.int .i64 a[k]) := by
          rw [hb.out.cell (p := ⟨ba, oa + k, none⟩) (World.block_lt_of_cell? _ _ ha)]; exact ha
        have hcwb : wr.cell? ⟨bb, ob + k, none⟩ = some (.int .i64 b[k]) := by
          rw [hb.out.cell (p := ⟨bb, ob + k, none⟩) (World.block_lt_of_cell? _ _ hb2)]; exact hb2
        obtain ⟨x, hX⟩ := hide a[k]
        obtain ⟨y, hY⟩ := hide b[k]
        rw [hX.out] at hcwa
        rw [hY.out] at hcwb
        clear hcella hcellb ha hb2
        have hka : decide (k < a.length) = true := decide_eq_true hlt
        by_cases hxy : x = y
        · have hne : (x != y) = false := by rw [bne_eq_false_iff_eq]; exact hxy
          have Hxy := Lib.hid hxy
          clear hxy
          go_wp2_with (go_quiet (fail))
          go_roundw
          case rel =>
            refine ⟨k + 1, by go_num, by omega, ?_, below_drewN hb.out _⟩
            show _ = _
            rw [take_snoc a k hlt, take_snoc b k hltb, he.out, hX.out, hY.out, Hxy.out]
          case measure => simp [intOf]; omega
        · have hne : (x != y) = true := by rw [bne_iff_ne]; exact hxy
          have e1 : false = res := by
            rw [← HR.out]; symm; apply decide_eq_false
            intro h; subst h; exact hxy (hX.out.symm.trans hY.out)
          subst e1
          clear hxy
          go_wp2_with (go_quiet (fail))
          go_ret
          exact ⟨rfl, below_drewN hb.out _⟩
      · have hka : decide (k < a.length) = false := decide_eq_false hlt
        have e1 : true = res := by
          rw [← HR.out]; symm; apply decide_eq_true
          have h := he.out
          rwa [List.take_of_length_le (by omega), List.take_of_length_le (by have := Hlen.out; omega)] at h
        subst e1
        clear hlt
        go_wp2
        go_ret
        exact ⟨rfl, hb.out⟩
  · have hd : ((a.length : Int) != (b.length : Int)) = true := by rw [bne_iff_ne]; omega
    have e1 : false = res := by
      rw [← HR.out]; symm; apply decide_eq_false
      intro h; exact hlen (by rw [h])
    subst e1
    clear hlen
    go_enter Try.func70, Try.ntmps70
    go_wp2
    go_ret
    exact ⟨rfl, Below.refl _ _⟩


end Go.Proofs.Ytgdmcbjlfnjhjaa
