/-
  pick: a number as an index.
-/
import Derived.Test.YtjlhlmnoomiblaaZ00
import Derived.WalkSpells
import Derived.WalkLawsBesides
import Derived.Lib.Hide
import Derived.BigGuardPart
namespace Go.Proofs.Ytjlhlmnoomiblaa
open Go.RowKit Mm
set_option linter.unusedVariables false

def pickN (c n : Int) : Nat := (c % n).toNat
theorem pickN_lt {c n : Int} (h : 0 < n) : (pickN c n : Int) < n := by
  have h1 := Int.emod_nonneg c (by omega : n ≠ 0)
  have h2 := Int.emod_lt_of_pos c h
  unfold pickN; omega

set_option maxHeartbeats 400000 in
theorem pick_any (c n : Int) (w : World) (hn : 0 < n) (hn2 : n ≤ 9223372036854775807) :
    Calls Try.prog 4 #[.int .i64 c, .int .i64 n] w fun e w' => e = .returned (.int .i64 (pickN c n)) ∧ w = w' := by
  have h1 := Int.emod_nonneg c (by omega : n ≠ 0)
  have h2 := Int.emod_lt_of_pos c hn
  have hne : (n == 0) = false := beq_eq_false_iff_ne.2 (by omega)
  have ht : c.tmod n = if 0 ≤ c ∨ c % n = 0 then c % n else c % n - n := by
    have h := Int.tmod_eq_emod (a := c) (b := n)
    rw [h]
    by_cases hc : 0 ≤ c ∨ n ∣ c
    · rw [if_pos hc, if_pos (hc.imp id Int.emod_eq_zero_of_dvd)]; simp
    · rw [if_neg hc, if_neg (fun h => hc (h.imp id Int.dvd_of_emod_eq_zero))]; omega
  obtain ⟨t, hT⟩ := hide (c.tmod n)
  obtain ⟨p, hP⟩ := hide (pickN c n)
  rw [hP.out]
  rw [hT.out] at ht
  by_cases h0 : t < 0
  · have hw : wrap64 (t + n) = (p : Int) := by
      have e : t + n = (p : Int) := by rw [← hP.out]; unfold pickN; split at ht <;> omega
      rw [e]; exact IntWalk.wrap64_in _ ⟨by omega, by rw [← hP.out]; unfold pickN; omega⟩
    have Ht := Lib.hid ht
    have H1 := Lib.hid h1
    have H2 := Lib.hid h2
    have hr := hT.out
    have d0 : decide (t < 0) = true := decide_eq_true h0
    clear ht h1 h2
    go_enter Try.func4, Try.ntmps4
    go_wp2
    go_ret
    exact ⟨by rw [hw]; rfl, rfl⟩
  · have hw : t = (p : Int) := by rw [← hP.out]; unfold pickN; split at ht <;> omega
    have hr := hT.out
    have d0 : decide (t < 0) = false := decide_eq_false h0
    have Ht := Lib.hid ht
    have Hw := Lib.hid hw
    clear ht h1 h2 hw
    go_enter Try.func4, Try.ntmps4
    go_wp2
    go_ret
    exact ⟨by rw [Hw.out]; rfl, rfl⟩
end Go.Proofs.Ytjlhlmnoomiblaa
