/-
  Numbers, one behind the other, of all bytes: the panicking reader's way. Reading of all bytes, numbers: what the caller gets.
-/
import Derived.Test.YtkcllpbbjlbfaaaRc
namespace Go.Proofs.Ytkcllpbbjlbfaaa
open Go.RowKit Wm Mm
set_option linter.unusedVariables false

theorem info_int : (Try.prog.info? 3).map (fun i => (i.zero, i.size, i.bytes)) = some (some (.int .i64 0), 1, 8) := by kernel_rfl

/-- how a reading call ends whose result is a slice of numbers, made behind block base -/
def GetsInts (base b : Nat) (w : World) (res : Res (List Nat)) (e : Ending) (w' : World) : Prop :=
  match res with
  | .ok (l, t) => ∃ v, e = .returned v ∧ w'.ownsRow base 3 1 v l.length (l.map vNat) ∧ Rd w' b t ∧ w.grownBy w' (some b)
  | .error z => e = stopped z ∧ w.grownBy w' (some b)

end Go.Proofs.Ytkcllpbbjlbfaaa

namespace Go.Proofs.Ytkcllpbbjlbfaaa
open Go.RowKit Wm Mm
set_option linter.unusedVariables false

/-- what a reading of all bytes hands back -/
def GotInts (w : World) (res : Except Int (List Nat)) (e : Ending) (w' : World) : Prop :=
  match res with
  | .ok l => ∃ v, e = .returned (.tuple #[v, .int .i64 0]) ∧ w'.ownsRow w.heap.size 3 1 v l.length (l.map vNat) ∧ Below w.heap.size w w'
  | .error z => e = .returned (.tuple #[.slice none 0 0, .int .i64 z]) ∧ Below w.heap.size w w'

end Go.Proofs.Ytkcllpbbjlbfaaa
