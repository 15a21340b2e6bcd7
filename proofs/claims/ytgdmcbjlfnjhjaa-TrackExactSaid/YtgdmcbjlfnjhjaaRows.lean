/-
  No cell of these rows narrows 'for every input' (looked for: loops, veiled, ifaces, maps, wideKeys, modest, calm, conditions, laid).
  DERIVED. THE GIVEN ROWS OF THIS SEAT. 4 by the template 'for every input the law returns true; each argument reads behind the call as it read before'; 0 by the template 'total and deterministic' (their statements: YtgdmcbjlfnjhjaaTotals.lean).
  GIVEN WITH THE SEED: the statements are not yours to turn. If you find one false, say at which input.
  Laid BY PROGRAM, IN A SANDBOX (cutbox-rows.mjs): the forced cells as the released guide's own fill.sh prints them over the translation 9f356e782964985f… (all of the seat's roots in one cut). By AI agents, Wed Nov 11 2026. No macro, syntax, notation, axiom, sorry.
-/
import Derived.Test.YtgdmcbjlfnjhjaaChecked
import GoSem.Claim
import GoSem.ClaimJoined
import GoSem.ClaimMapViews
import Derived.JoinedTies
import Derived.KernelRfl
namespace Go.Proofs.Ytgdmcbjlfnjhjaa
/- THE CELL 'sum', in the pinned program and in every row, IS THE sha256 OF THE DUMP (.gsa) THAT YtgdmcbjlfnjhjaaProg.lean LOADS. Nothing in Lean hashes anything: it is a label: what it is worth is what the hold of that sum in a sandbox is worth. -/
noncomputable def Try.pinned : Pinned := { name := "ytgdmcbjlfnjhjaa", sum := "9f356e782964985f28cd88442fbb77dcfa94c48d6407c0e031b8d24462dfe663", checked := Try.checked }
namespace Rows
def none {H : Type} : Left H := { results := [], args := [] }

/-- 'quoratekeep.TrackSafe': WHATEVER THE INPUT: true; the input reads as it did. -/
def trackSafeSpec : ChangeSpec := { name := "trackSafe", fn := fun _ => fun
  | [d1, d2, d3, d4] => { results := [.lit (.bool true)], args := [d1, d2, d3, d4] }
  | _ => none }
def trackSafeRow : OpenClaim := { program := "ytgdmcbjlfnjhjaa", sum := "9f356e782964985f28cd88442fbb77dcfa94c48d6407c0e031b8d24462dfe663", func := "quorate/quoratekeep.TrackSafe", spec := "trackSafe", unfollowed := true, recurses := true, apart := false }
def TrackSafeSaid : Prop := trackSafeRow.holds Try.pinned (OpenSpec.ofChange trackSafeSpec)

/-- ITS FALSE NEIGHBOUR: 'it returns false'. Refute it at one input. -/
def trackSafeWrong : ChangeSpec := { name := "trackSafe", fn := fun _ => fun
  | [d1, d2, d3, d4] => { results := [.lit (.bool false)], args := [d1, d2, d3, d4] }
  | _ => none }
def TrackSafeWrongFalsely : Prop := trackSafeRow.holds Try.pinned (OpenSpec.ofChange trackSafeWrong)

/-- 'quoratekeep.ConfigMeets': WHATEVER THE INPUT: true; the input reads as it did. -/
def configMeetsSpec : ChangeSpec := { name := "configMeets", fn := fun _ => fun
  | [d1, d2, d3, d4, d5] => { results := [.lit (.bool true)], args := [d1, d2, d3, d4, d5] }
  | _ => none }
def configMeetsRow : OpenClaim := { program := "ytgdmcbjlfnjhjaa", sum := "9f356e782964985f28cd88442fbb77dcfa94c48d6407c0e031b8d24462dfe663", func := "quorate/quoratekeep.ConfigMeets", spec := "configMeets", unfollowed := true, recurses := true, apart := false }
def ConfigMeetsSaid : Prop := configMeetsRow.holds Try.pinned (OpenSpec.ofChange configMeetsSpec)

/-- ITS FALSE NEIGHBOUR: 'it returns false'. Refute it at one input. -/
def configMeetsWrong : ChangeSpec := { name := "configMeets", fn := fun _ => fun
  | [d1, d2, d3, d4, d5] => { results := [.lit (.bool false)], args := [d1, d2, d3, d4, d5] }
  | _ => none }
def ConfigMeetsWrongFalsely : Prop := configMeetsRow.holds Try.pinned (OpenSpec.ofChange configMeetsWrong)

/-- 'quoratelaw.TrackExact': WHATEVER THE INPUT: true; the input reads as it did. -/
def trackExactSpec : ChangeSpec := { name := "trackExact", fn := fun _ => fun
  | [d1, d2, d3, d4, d5, d6, d7] => { results := [.lit (.bool true)], args := [d1, d2, d3, d4, d5, d6, d7] }
  | _ => none }
def trackExactRow : OpenClaim := { program := "ytgdmcbjlfnjhjaa", sum := "9f356e782964985f28cd88442fbb77dcfa94c48d6407c0e031b8d24462dfe663", func := "quorate/quoratelaw.TrackExact", spec := "trackExact", unfollowed := true, recurses := true, apart := false }
def TrackExactSaid : Prop := trackExactRow.holds Try.pinned (OpenSpec.ofChange trackExactSpec)

/-- ITS FALSE NEIGHBOUR: 'it returns false'. Refute it at one input. -/
def trackExactWrong : ChangeSpec := { name := "trackExact", fn := fun _ => fun
  | [d1, d2, d3, d4, d5, d6, d7] => { results := [.lit (.bool false)], args := [d1, d2, d3, d4, d5, d6, d7] }
  | _ => none }
def TrackExactWrongFalsely : Prop := trackExactRow.holds Try.pinned (OpenSpec.ofChange trackExactWrong)

/-- 'quoratelaw.ConfigExact': WHATEVER THE INPUT: true; the input reads as it did. -/
def configExactSpec : ChangeSpec := { name := "configExact", fn := fun _ => fun
  | [d1, d2, d3] => { results := [.lit (.bool true)], args := [d1, d2, d3] }
  | _ => none }
def configExactRow : OpenClaim := { program := "ytgdmcbjlfnjhjaa", sum := "9f356e782964985f28cd88442fbb77dcfa94c48d6407c0e031b8d24462dfe663", func := "quorate/quoratelaw.ConfigExact", spec := "configExact", unfollowed := true, recurses := true, apart := false }
def ConfigExactSaid : Prop := configExactRow.holds Try.pinned (OpenSpec.ofChange configExactSpec)

/-- ITS FALSE NEIGHBOUR: 'it returns false'. Refute it at one input. -/
def configExactWrong : ChangeSpec := { name := "configExact", fn := fun _ => fun
  | [d1, d2, d3] => { results := [.lit (.bool false)], args := [d1, d2, d3] }
  | _ => none }
def ConfigExactWrongFalsely : Prop := configExactRow.holds Try.pinned (OpenSpec.ofChange configExactWrong)

/- THE SECOND FORM. 'bulk': how many values and letters a reading holds, each counted each time it is reached (what is shared counts as often as it is met; a slice's spare places count too). A statement '..UptoSaid' is the law's where the arguments, and the package variables that the reading takes, are together of bulk at most 1048576: NARROWER than '..Said'. Prove '..Said' where nothing that the law and all that it calls make is longer than what came in: it says more and counts as full. Else prove '..UptoSaid'. A law counts once. -/
mutual
def uptoBulk {H : Type} : DataW H → Nat
  | .lit (.string bytes) => bytes.length + 1
  | .lit _ => 1
  | .nil => 1
  | .ptr d => uptoBulk d + 1
  | .slice elems spare => uptoBulkAll elems + uptoBulkAll spare + 1
  | .agg parts => uptoBulkAll parts + 1
  | .iface _ d => uptoBulk d + 1
  | .map entries => uptoBulkEntries entries + 1
  | .held _ => 1
def uptoBulkAll {H : Type} : List (DataW H) → Nat
  | [] => 0
  | d :: r => uptoBulk d + uptoBulkAll r
def uptoBulkEntries {H : Type} : List (Lit × DataW H) → Nat
  | [] => 0
  | x :: r => uptoBulkEntry x + uptoBulkEntries r
def uptoBulkEntry {H : Type} : Lit × DataW H → Nat
  | (.string bytes, d) => bytes.length + uptoBulk d + 1
  | (_, d) => uptoBulk d + 1
 end
def uptoSmall : (H : Type) → List (DataW H) → Bool := fun _ ds => decide (uptoBulkAll ds ≤ 1048576)
def OpenSpec.upto (s : _root_.Go.ChangeSpec) : _root_.Go.OpenSpec := { _root_.Go.OpenSpec.ofChange s with cond := some uptoSmall }

/-- 'quoratekeep.TrackSafe', WHERE WHAT IT READS IS OF BULK AT MOST 1048576: true; the input reads as it did. -/
def trackSafeUptoRow : OpenClaim := { program := "ytgdmcbjlfnjhjaa", sum := "9f356e782964985f28cd88442fbb77dcfa94c48d6407c0e031b8d24462dfe663", func := "quorate/quoratekeep.TrackSafe", spec := "trackSafe", unfollowed := true, recurses := true, apart := false, narrowed := true }
def TrackSafeUptoSaid : Prop := trackSafeUptoRow.holds Try.pinned (OpenSpec.upto trackSafeSpec)

/-- 'quoratekeep.ConfigMeets', WHERE WHAT IT READS IS OF BULK AT MOST 1048576: true; the input reads as it did. -/
def configMeetsUptoRow : OpenClaim := { program := "ytgdmcbjlfnjhjaa", sum := "9f356e782964985f28cd88442fbb77dcfa94c48d6407c0e031b8d24462dfe663", func := "quorate/quoratekeep.ConfigMeets", spec := "configMeets", unfollowed := true, recurses := true, apart := false, narrowed := true }
def ConfigMeetsUptoSaid : Prop := configMeetsUptoRow.holds Try.pinned (OpenSpec.upto configMeetsSpec)

/-- 'quoratelaw.TrackExact', WHERE WHAT IT READS IS OF BULK AT MOST 1048576: true; the input reads as it did. -/
def trackExactUptoRow : OpenClaim := { program := "ytgdmcbjlfnjhjaa", sum := "9f356e782964985f28cd88442fbb77dcfa94c48d6407c0e031b8d24462dfe663", func := "quorate/quoratelaw.TrackExact", spec := "trackExact", unfollowed := true, recurses := true, apart := false, narrowed := true }
def TrackExactUptoSaid : Prop := trackExactUptoRow.holds Try.pinned (OpenSpec.upto trackExactSpec)

/-- 'quoratelaw.ConfigExact', WHERE WHAT IT READS IS OF BULK AT MOST 1048576: true; the input reads as it did. -/
def configExactUptoRow : OpenClaim := { program := "ytgdmcbjlfnjhjaa", sum := "9f356e782964985f28cd88442fbb77dcfa94c48d6407c0e031b8d24462dfe663", func := "quorate/quoratelaw.ConfigExact", spec := "configExact", unfollowed := true, recurses := true, apart := false, narrowed := true }
def ConfigExactUptoSaid : Prop := configExactUptoRow.holds Try.pinned (OpenSpec.upto configExactSpec)

end Rows
end Go.Proofs.Ytgdmcbjlfnjhjaa
