/-
  Reading configurations: all bytes, the deferred catch.
-/
import Derived.Test.YtkcllpbbjlbfaaaEr
import Derived.Test.YtkcllpbbjlbfaaaRc
import Derived.Handy
namespace Go.Proofs.Ytkcllpbbjlbfaaa
open Go.RowKit Wm Mm
set_option linter.unusedVariables false

/-- what a reading of all bytes hands back -/
def GotConf (w : World) (res : Except Int Conf) (e : Ending) (w' : World) : Prop :=
  match res with
  | .ok q => ∃ x y z, e = .returned (.tuple #[.agg #[x, y, z], .int .i64 0]) ∧ Config3F w.heap.size w' x y z q ∧ Below w.heap.size w w'
  | .error z => e = .returned (.tuple #[.agg #[.slice none 0 0, .slice none 0 0, .slice none 0 0], .int .i64 z]) ∧ Below w.heap.size w w'

end Go.Proofs.Ytkcllpbbjlbfaaa
