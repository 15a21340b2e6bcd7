/-
  Commands and requests, both ways.
-/
import Derived.Test.YtkcllpbbjlbfaaaWm
import Derived.WalkSpells
import Derived.WalkLawsBesides
import Derived.Lib.Hide
import Derived.BigGuardPart
namespace Go.Proofs.Ytkcllpbbjlbfaaa
open Go.RowKit Wm Mm
set_option linter.unusedVariables false

def inB (n low high : Int) : Bool := decide (low ≤ n) && decide (n ≤ high)

set_option maxHeartbeats 400000 in
theorem in_any (n low high : Int) (w : World) :
    Calls Try.prog 40 #[.int .i64 n, .int .i64 low, .int .i64 high] w fun e w' => e = .returned (.bool (inB n low high)) ∧ w = w' := by
  by_cases h1 : low ≤ n
  · have t1 : decide (low ≤ n) = true := decide_eq_true h1
    have e1 : inB n low high = decide (n ≤ high) := by unfold inB; rw [t1]; rfl
    rw [e1]
    clear h1 e1
    go_enter Try.func40, Try.ntmps40
    go_wp2
    go_ret
    exact ⟨rfl, rfl⟩
  · have t1 : decide (low ≤ n) = false := decide_eq_false h1
    have e1 : inB n low high = false := by unfold inB; rw [t1]; rfl
    rw [e1]
    clear h1 e1
    go_enter Try.func40, Try.ntmps40
    go_wp2
    go_ret
    exact ⟨rfl, rfl⟩

/-- may a command be? -/
def isCommand (kind : Int) (key val : List UInt8) (iff : Int) : Bool :=
  inB kind 1 6 && decide (key.length ≤ 16) && decide (val.length ≤ 64) && inB iff 0 1099511627775 &&
    (if kind = 6 then val == [] else if kind = 2 ∨ kind = 3 then (val == [] && iff == 0 && !(key == [])) else if kind = 1 ∨ kind = 5 then (iff == 0 && !(key == [])) else !(key == []))
abbrev vCmd (kind : Int) (key val : List UInt8) (iff : Int) : Value := .agg #[.int .i64 kind, str key, str val, .int .i64 iff]

end Go.Proofs.Ytkcllpbbjlbfaaa
