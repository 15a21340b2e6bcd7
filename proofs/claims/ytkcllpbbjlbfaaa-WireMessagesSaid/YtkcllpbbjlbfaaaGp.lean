/-
  Numbers, one behind the other: both ways of writing them, both ways of reading them, and the law.
-/
import Derived.Test.YtkcllpbbjlbfaaaGn
import Derived.Test.YtkcllpbbjlbfaaaWq
import Derived.Test.YtkcllpbbjlbfaaaRc
import Derived.Test.YtkcllpbbjlbfaaaWp
import Derived.Deep.QuietTactic
import Derived.BigQuiet
namespace Go.Proofs.Ytkcllpbbjlbfaaa
open Go.RowKit Wm Mm
set_option linter.unusedVariables false

def putNums (l : List Nat) : List UInt8 := l.flatMap putNum
theorem putNums_len (l : List Nat) (h : ∀ n ∈ l, n < 9223372036854775808) : (putNums l).length ≤ 9 * l.length := by
  induction l with
  | nil => simp [putNums]
  | cons n l ih =>
    have h1 := putNum_len10 (h n (List.mem_cons_self ..))
    have h2 := ih (fun m hm => h m (List.mem_cons_of_mem _ hm))
    simp [putNums] at *
    omega
theorem putNums_snoc (l : List Nat) (n : Nat) : putNums (l ++ [n]) = putNums l ++ putNum n := by simp [putNums]
theorem take_snoc {α : Type} (l : List α) (k : Nat) (h : k < l.length) : l.take (k + 1) = l.take k ++ [l[k]] := by
  rw [List.take_succ_eq_append_getElem h]
abbrev ints (l : List Nat) : List Int := l.map (fun n : Nat => (n : Int))

theorem ints_ne {l : List Nat} {k : Nat} (h : k < l.length) : ints l ≠ [] := by
  cases l with
  | nil => simp at h
  | cons _ _ => simp

end Go.Proofs.Ytkcllpbbjlbfaaa
