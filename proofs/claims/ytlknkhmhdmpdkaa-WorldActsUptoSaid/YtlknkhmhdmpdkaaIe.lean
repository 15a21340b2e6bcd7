/-
  Entries: may one be? both ways.
-/
import Derived.Test.YtlknkhmhdmpdkaaWm
import Derived.Test.YtlknkhmhdmpdkaaCx
import Derived.WalkKit
import Derived.WalkSpells
import Derived.WalkLawsBesides
import Derived.Lib.Hide
namespace Go.Proofs.Ytlknkhmhdmpdkaa
open Go.RowKit Wm Mm
set_option linter.unusedVariables false

def inB (n low high : Int) : Bool := decide (low ≤ n) && decide (n ≤ high)

set_option maxHeartbeats 400000 in
theorem in_any (n low high : Int) (w : World) :
    Calls Try.prog 163 #[.int .i64 n, .int .i64 low, .int .i64 high] w fun e w' => e = .returned (.bool (inB n low high)) ∧ w = w' := by
  by_cases h1 : low ≤ n
  · have t1 : decide (low ≤ n) = true := decide_eq_true h1
    have e1 : inB n low high = decide (n ≤ high) := by unfold inB; rw [t1]; rfl
    rw [e1]
    clear h1 e1
    go_enter Try.func163, Try.ntmps163
    go_wp2
    go_ret
    exact ⟨rfl, rfl⟩
  · have t1 : decide (low ≤ n) = false := decide_eq_false h1
    have e1 : inB n low high = false := by unfold inB; rw [t1]; rfl
    rw [e1]
    clear h1 e1
    go_enter Try.func163, Try.ntmps163
    go_wp2
    go_ret
    exact ⟨rfl, rfl⟩

set_option maxHeartbeats 400000 in
theorem ref_in_any (n low high : Int) (w : World) :
    Calls Try.prog 164 #[.int .i64 n, .int .i64 low, .int .i64 high] w fun e w' => e = .returned (.bool (inB n low high)) ∧ w = w' := by
  by_cases h1 : low ≤ n
  · have t1 : decide (low ≤ n) = true := decide_eq_true h1
    have e1 : inB n low high = decide (n ≤ high) := by unfold inB; rw [t1]; rfl
    rw [e1]
    clear h1 e1
    go_enter Try.func164, Try.ntmps164
    go_wp2
    go_ret
    exact ⟨rfl, rfl⟩
  · have t1 : decide (low ≤ n) = false := decide_eq_false h1
    have e1 : inB n low high = false := by unfold inB; rw [t1]; rfl
    rw [e1]
    clear h1 e1
    go_enter Try.func164, Try.ntmps164
    go_wp2
    go_ret
    exact ⟨rfl, rfl⟩

/-- may an entry be? -/
def isEntry (index term kind : Int) (data : List UInt8) : Bool :=
  inB index 1 1099511627775 && (inB term 1 1099511627775 && (inB kind 0 2 && (decide (data.length ≤ 256) && (!(decide (kind = 0)) || data == []))))
abbrev vEnt (index term kind : Int) (data : List UInt8) : Value := .agg #[.int .i64 index, .int .i64 term, .int .i64 kind, str data]

set_option maxHeartbeats 2000000 in
theorem wire_isEntry (index term kind : Int) (data : List UInt8) (w : World) :
    Calls Try.prog 114 #[vEnt index term kind data] w fun e w' => e = .returned (.bool (isEntry index term kind data)) ∧ w.alloc (.cells #[.int .i64 index, .int .i64 term, .int .i64 kind, str data] 56) = w' := by
  obtain ⟨r, hr⟩ := hide (isEntry index term kind data)
  rw [hr.out]
  go_enter Try.func114, Try.ntmps114
  go_wp2_with (go_at_call 163; refine (in_any _ _ _ _).mono ?_; rintro e w' ⟨rfl, rfl⟩)
  all_goals
    go_ret
    refine ⟨congrArg (fun b => Ending.returned (.bool b)) ?_, by first | rfl | (simp_all; done)⟩
    rw [← hr.out]
    clear hr
    first
      | (simp_all [isEntry]; done)
      | (simp_all [isEntry]; omega)

set_option maxHeartbeats 2000000 in
theorem ref_isEntry (index term kind : Int) (data : List UInt8) (w : World) :
    Calls Try.prog 115 #[vEnt index term kind data] w fun e w' => e = .returned (.bool (isEntry index term kind data)) ∧ w.alloc (.cells #[.int .i64 index, .int .i64 term, .int .i64 kind, str data] 56) = w' := by
  obtain ⟨r, hr⟩ := hide (isEntry index term kind data)
  rw [hr.out]
  go_enter Try.func115, Try.ntmps115
  go_wp2_with (go_at_call 164; refine (ref_in_any _ _ _ _).mono ?_; rintro e w' ⟨rfl, rfl⟩)
  all_goals
    go_ret
    refine ⟨congrArg (fun b => Ending.returned (.bool b)) ?_, by first | rfl | (simp_all; done)⟩
    rw [← hr.out]
    clear hr
    first
      | (simp_all [isEntry]; done)
      | (simp_all [isEntry, inB]; done)
      | (simp_all [isEntry, inB]; omega)
end Go.Proofs.Ytlknkhmhdmpdkaa
