/-
  Commands and requests, both ways.
-/
import Derived.Test.YtnmlkoidmacinaaDoorWm
import Derived.WalkSpells
import Derived.WalkLawsBesides
import Derived.Lib.Hide
import Derived.BigGuardPart
namespace Go.Proofs.YtnmlkoidmacinaaDoor
open Go.RowKit Wm Mm
set_option linter.unusedVariables false

def inB (n low high : Int) : Bool := decide (low ≤ n) && decide (n ≤ high)

set_option maxHeartbeats 400000 in
theorem in_any (n low high : Int) (w : World) :
    Calls Tryd.prog 50 #[.int .i64 n, .int .i64 low, .int .i64 high] w fun e w' => e = .returned (.bool (inB n low high)) ∧ w = w' := by
  by_cases h1 : low ≤ n
  · have t1 : decide (low ≤ n) = true := decide_eq_true h1
    have e1 : inB n low high = decide (n ≤ high) := by unfold inB; rw [t1]; rfl
    rw [e1]
    clear h1 e1
    go_enter Tryd.func50, Tryd.ntmps50
    go_wp2
    go_ret
    exact ⟨rfl, rfl⟩
  · have t1 : decide (low ≤ n) = false := decide_eq_false h1
    have e1 : inB n low high = false := by unfold inB; rw [t1]; rfl
    rw [e1]
    clear h1 e1
    go_enter Tryd.func50, Tryd.ntmps50
    go_wp2
    go_ret
    exact ⟨rfl, rfl⟩

/-- may a command be? -/
def isCommand (kind : Int) (key val : List UInt8) (iff : Int) : Bool :=
  inB kind 1 6 && decide (key.length ≤ 16) && decide (val.length ≤ 64) && inB iff 0 1099511627775 &&
    (if kind = 6 then val == [] else if kind = 2 ∨ kind = 3 then (val == [] && iff == 0 && !(key == [])) else if kind = 1 ∨ kind = 5 then (iff == 0 && !(key == [])) else !(key == []))
abbrev vCmd (kind : Int) (key val : List UInt8) (iff : Int) : Value := .agg #[.int .i64 kind, str key, str val, .int .i64 iff]

set_option maxHeartbeats 2000000 in
theorem wire_isCommand (kind : Int) (key val : List UInt8) (iff : Int) (w : World) :
    Calls Tryd.prog 37 #[vCmd kind key val iff] w fun e w' => e = .returned (.bool (isCommand kind key val iff)) ∧ w.alloc (.cells #[.int .i64 kind, str key, str val, .int .i64 iff] 37) = w' := by
  obtain ⟨r, hr⟩ := hide (isCommand kind key val iff)
  rw [hr.out]
  go_enter Tryd.func37, Tryd.ntmps37
  go_wp2_with (go_at_call 50; refine (in_any _ _ _ _).mono ?_; rintro e w' ⟨rfl, rfl⟩)
  all_goals
    go_ret
    refine ⟨congrArg (fun b => Ending.returned (.bool b)) ?_, rfl⟩
    rw [← hr.out]
    clear hr
    first
      | (simp_all [isCommand]; done)
      | (simp_all [isCommand]; omega)

set_option maxHeartbeats 2000000 in
theorem ref_isCommand (kind : Int) (key val : List UInt8) (iff : Int) (w : World) :
    Calls Tryd.prog 43 #[vCmd kind key val iff] w fun e w' => e = .returned (.bool (isCommand kind key val iff)) ∧ w.alloc (.cells #[.int .i64 kind, str key, str val, .int .i64 iff] 37) = w' := by
  obtain ⟨r, hr⟩ := hide (isCommand kind key val iff)
  rw [hr.out]
  by_cases h0 : iff < 0
  · have d0 : decide (iff < 0) = true := decide_eq_true h0
    have d1 : decide (1099511627775 < iff) = false := decide_eq_false (by omega)
    have H0 := Lib.hid h0
    clear h0
    go_enter Tryd.func43, Tryd.ntmps43
    go_wp2
    all_goals
      go_ret
      refine ⟨congrArg (fun b => Ending.returned (.bool b)) ?_, by first | rfl | (simp_all; done)⟩
      rw [← hr.out]
      have h0 := H0.out
      clear hr H0 d0 d1
      first
        | (simp_all [isCommand, inB]; done)
        | (simp_all [isCommand, inB]; omega)
  by_cases h1 : 1099511627775 < iff
  · have d0 : decide (iff < 0) = false := decide_eq_false h0
    have d1 : decide (1099511627775 < iff) = true := decide_eq_true h1
    have H0 := Lib.hid h1
    clear h0 h1
    go_enter Tryd.func43, Tryd.ntmps43
    go_wp2
    all_goals
      go_ret
      refine ⟨congrArg (fun b => Ending.returned (.bool b)) ?_, by first | rfl | (simp_all; done)⟩
      rw [← hr.out]
      have h0 := H0.out
      clear hr H0 d0 d1
      first
        | (simp_all [isCommand, inB]; done)
        | (simp_all [isCommand, inB]; omega)
  · have d0 : decide (iff < 0) = false := decide_eq_false h0
    have d1 : decide (1099511627775 < iff) = false := decide_eq_false h1
    have H0 := Lib.hid h0
    have H1 := Lib.hid h1
    clear h0 h1
    go_enter Tryd.func43, Tryd.ntmps43
    go_wp2
    all_goals
      go_ret
      refine ⟨congrArg (fun b => Ending.returned (.bool b)) ?_, by first | rfl | (simp_all; done)⟩
      rw [← hr.out]
      have h0 := H0.out
      have h1 := H1.out
      clear hr H0 d0 d1 H1
      first
        | (simp_all [isCommand, inB]; done)
        | (simp_all [isCommand, inB]; omega)
end Go.Proofs.YtnmlkoidmacinaaDoor
