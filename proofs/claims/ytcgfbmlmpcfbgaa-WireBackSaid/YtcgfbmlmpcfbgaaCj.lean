/-
  Are two configurations the same? the document's way.
-/
import Derived.Test.YtcgfbmlmpcfbgaaCh
namespace Go.Proofs.Ytcgfbmlmpcfbgaa
open Go.RowKit Wm Mm
set_option linter.unusedVariables false

def sameConf (c c' : Conf) : Bool := decide (c.v = c'.v) && (decide (c.n = c'.n) && decide (c.l = c'.l))

end Go.Proofs.Ytcgfbmlmpcfbgaa
