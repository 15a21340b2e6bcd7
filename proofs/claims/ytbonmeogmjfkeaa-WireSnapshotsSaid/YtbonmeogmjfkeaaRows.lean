/-
  No cell of these rows narrows 'for every input' (looked for: loops, veiled, ifaces, maps, wideKeys, modest, calm, conditions, laid).
  DERIVED. THE GIVEN ROWS OF THIS SEAT. 12 by the template 'for every input the law returns true; each argument reads behind the call as it read before'; 0 by the template 'total and deterministic' (their statements: YtbonmeogmjfkeaaTotals.lean).
  GIVEN WITH THE SEED: the statements are not yours to turn. If you find one false, say at which input.
  Laid BY PROGRAM, IN A SANDBOX (cutbox-rows.mjs): the forced cells as the released guide's own fill.sh prints them over the translation f8a00d6871c4481d… (all of the seat's roots in one cut). By AI agents, Wed Nov 11 2026. No macro, syntax, notation, axiom, sorry.
-/
import Derived.Test.YtbonmeogmjfkeaaChecked
import GoSem.Claim
import GoSem.ClaimJoined
import GoSem.ClaimMapViews
import Derived.JoinedTies
import Derived.KernelRfl
namespace Go.Proofs.Ytbonmeogmjfkeaa
/- THE CELL 'sum', in the pinned program and in every row, IS THE sha256 OF THE DUMP (.gsa) THAT YtbonmeogmjfkeaaProg.lean LOADS. Nothing in Lean hashes anything: it is a label: what it is worth is what the hold of that sum in a sandbox is worth. -/
noncomputable def Try.pinned : Pinned := { name := "ytbonmeogmjfkeaa", sum := "f8a00d6871c4481dbcfe9a672fd5e3b94beb88bf374b45fd042d1799a1ffc1c4", checked := Try.checked }
namespace Rows
def none {H : Type} : Left H := { results := [], args := [] }

/-- 'quoratelaw.Names': WHATEVER THE INPUT: true; the input reads as it did. -/
def namesSpec : ChangeSpec := { name := "names", fn := fun _ => fun
  | [] => { results := [.lit (.bool true)], args := [] }
  | _ => none }
def namesRow : OpenClaim := { program := "ytbonmeogmjfkeaa", sum := "f8a00d6871c4481dbcfe9a672fd5e3b94beb88bf374b45fd042d1799a1ffc1c4", func := "quorate/quoratelaw.Names", spec := "names", apart := false }
def NamesSaid : Prop := namesRow.holds Try.pinned (OpenSpec.ofChange namesSpec)

/-- ITS FALSE NEIGHBOUR: 'it returns false'. Refute it at one input. -/
def namesWrong : ChangeSpec := { name := "names", fn := fun _ => fun
  | [] => { results := [.lit (.bool false)], args := [] }
  | _ => none }
def NamesWrongFalsely : Prop := namesRow.holds Try.pinned (OpenSpec.ofChange namesWrong)

/-- 'quoratelaw.WireNumbers': WHATEVER THE INPUT: true; the input reads as it did. -/
def wireNumbersSpec : ChangeSpec := { name := "wireNumbers", fn := fun _ => fun
  | [d1, d2, d3] => { results := [.lit (.bool true)], args := [d1, d2, d3] }
  | _ => none }
def wireNumbersRow : OpenClaim := { program := "ytbonmeogmjfkeaa", sum := "f8a00d6871c4481dbcfe9a672fd5e3b94beb88bf374b45fd042d1799a1ffc1c4", func := "quorate/quoratelaw.WireNumbers", spec := "wireNumbers", unfollowed := true, recurses := true, apart := false }
def WireNumbersSaid : Prop := wireNumbersRow.holds Try.pinned (OpenSpec.ofChange wireNumbersSpec)

/-- ITS FALSE NEIGHBOUR: 'it returns false'. Refute it at one input. -/
def wireNumbersWrong : ChangeSpec := { name := "wireNumbers", fn := fun _ => fun
  | [d1, d2, d3] => { results := [.lit (.bool false)], args := [d1, d2, d3] }
  | _ => none }
def WireNumbersWrongFalsely : Prop := wireNumbersRow.holds Try.pinned (OpenSpec.ofChange wireNumbersWrong)

/-- 'quoratelaw.RelayExact': WHATEVER THE INPUT: true; the input reads as it did. -/
def relayExactSpec : ChangeSpec := { name := "relayExact", fn := fun _ => fun
  | [d1, d2] => { results := [.lit (.bool true)], args := [d1, d2] }
  | _ => none }
def relayExactRow : OpenClaim := { program := "ytbonmeogmjfkeaa", sum := "f8a00d6871c4481dbcfe9a672fd5e3b94beb88bf374b45fd042d1799a1ffc1c4", func := "quorate/quoratelaw.RelayExact", spec := "relayExact", unfollowed := true, recurses := true, apart := false }
def RelayExactSaid : Prop := relayExactRow.holds Try.pinned (OpenSpec.ofChange relayExactSpec)

/-- ITS FALSE NEIGHBOUR: 'it returns false'. Refute it at one input. -/
def relayExactWrong : ChangeSpec := { name := "relayExact", fn := fun _ => fun
  | [d1, d2] => { results := [.lit (.bool false)], args := [d1, d2] }
  | _ => none }
def RelayExactWrongFalsely : Prop := relayExactRow.holds Try.pinned (OpenSpec.ofChange relayExactWrong)

/-- 'quoratekeep.RelayOnce': WHATEVER THE INPUT: true; the input reads as it did. -/
def relayOnceSpec : ChangeSpec := { name := "relayOnce", fn := fun _ => fun
  | [d] => { results := [.lit (.bool true)], args := [d] }
  | _ => none }
def relayOnceRow : OpenClaim := { program := "ytbonmeogmjfkeaa", sum := "f8a00d6871c4481dbcfe9a672fd5e3b94beb88bf374b45fd042d1799a1ffc1c4", func := "quorate/quoratekeep.RelayOnce", spec := "relayOnce", unfollowed := true, recurses := true, apart := false }
def RelayOnceSaid : Prop := relayOnceRow.holds Try.pinned (OpenSpec.ofChange relayOnceSpec)

/-- ITS FALSE NEIGHBOUR: 'it returns false'. Refute it at one input. -/
def relayOnceWrong : ChangeSpec := { name := "relayOnce", fn := fun _ => fun
  | [d] => { results := [.lit (.bool false)], args := [d] }
  | _ => none }
def RelayOnceWrongFalsely : Prop := relayOnceRow.holds Try.pinned (OpenSpec.ofChange relayOnceWrong)

/-- 'quoratelaw.WireFrames': WHATEVER THE INPUT: true; the input reads as it did. -/
def wireFramesSpec : ChangeSpec := { name := "wireFrames", fn := fun _ => fun
  | [d1, d2] => { results := [.lit (.bool true)], args := [d1, d2] }
  | _ => none }
def wireFramesRow : OpenClaim := { program := "ytbonmeogmjfkeaa", sum := "f8a00d6871c4481dbcfe9a672fd5e3b94beb88bf374b45fd042d1799a1ffc1c4", func := "quorate/quoratelaw.WireFrames", spec := "wireFrames", unfollowed := true, recurses := true, apart := false }
def WireFramesSaid : Prop := wireFramesRow.holds Try.pinned (OpenSpec.ofChange wireFramesSpec)

/-- ITS FALSE NEIGHBOUR: 'it returns false'. Refute it at one input. -/
def wireFramesWrong : ChangeSpec := { name := "wireFrames", fn := fun _ => fun
  | [d1, d2] => { results := [.lit (.bool false)], args := [d1, d2] }
  | _ => none }
def WireFramesWrongFalsely : Prop := wireFramesRow.holds Try.pinned (OpenSpec.ofChange wireFramesWrong)

/-- 'quoratekeep.WireTorn': WHATEVER THE INPUT: true; the input reads as it did. -/
def wireTornSpec : ChangeSpec := { name := "wireTorn", fn := fun _ => fun
  | [d1, d2, d3] => { results := [.lit (.bool true)], args := [d1, d2, d3] }
  | _ => none }
def wireTornRow : OpenClaim := { program := "ytbonmeogmjfkeaa", sum := "f8a00d6871c4481dbcfe9a672fd5e3b94beb88bf374b45fd042d1799a1ffc1c4", func := "quorate/quoratekeep.WireTorn", spec := "wireTorn", unfollowed := true, recurses := true, apart := false }
def WireTornSaid : Prop := wireTornRow.holds Try.pinned (OpenSpec.ofChange wireTornSpec)

/-- ITS FALSE NEIGHBOUR: 'it returns false'. Refute it at one input. -/
def wireTornWrong : ChangeSpec := { name := "wireTorn", fn := fun _ => fun
  | [d1, d2, d3] => { results := [.lit (.bool false)], args := [d1, d2, d3] }
  | _ => none }
def WireTornWrongFalsely : Prop := wireTornRow.holds Try.pinned (OpenSpec.ofChange wireTornWrong)

/-- 'quoratelaw.WireRequests': WHATEVER THE INPUT: true; the input reads as it did. -/
def wireRequestsSpec : ChangeSpec := { name := "wireRequests", fn := fun _ => fun
  | [d1, d2] => { results := [.lit (.bool true)], args := [d1, d2] }
  | _ => none }
def wireRequestsRow : OpenClaim := { program := "ytbonmeogmjfkeaa", sum := "f8a00d6871c4481dbcfe9a672fd5e3b94beb88bf374b45fd042d1799a1ffc1c4", func := "quorate/quoratelaw.WireRequests", spec := "wireRequests", unfollowed := true, recurses := true, apart := false }
def WireRequestsSaid : Prop := wireRequestsRow.holds Try.pinned (OpenSpec.ofChange wireRequestsSpec)

/-- ITS FALSE NEIGHBOUR: 'it returns false'. Refute it at one input. -/
def wireRequestsWrong : ChangeSpec := { name := "wireRequests", fn := fun _ => fun
  | [d1, d2] => { results := [.lit (.bool false)], args := [d1, d2] }
  | _ => none }
def WireRequestsWrongFalsely : Prop := wireRequestsRow.holds Try.pinned (OpenSpec.ofChange wireRequestsWrong)

/-- 'quoratelaw.WireEntries': WHATEVER THE INPUT: true; the input reads as it did. -/
def wireEntriesSpec : ChangeSpec := { name := "wireEntries", fn := fun _ => fun
  | [d1, d2, d3] => { results := [.lit (.bool true)], args := [d1, d2, d3] }
  | _ => none }
def wireEntriesRow : OpenClaim := { program := "ytbonmeogmjfkeaa", sum := "f8a00d6871c4481dbcfe9a672fd5e3b94beb88bf374b45fd042d1799a1ffc1c4", func := "quorate/quoratelaw.WireEntries", spec := "wireEntries", unfollowed := true, recurses := true, apart := false }
def WireEntriesSaid : Prop := wireEntriesRow.holds Try.pinned (OpenSpec.ofChange wireEntriesSpec)

/-- ITS FALSE NEIGHBOUR: 'it returns false'. Refute it at one input. -/
def wireEntriesWrong : ChangeSpec := { name := "wireEntries", fn := fun _ => fun
  | [d1, d2, d3] => { results := [.lit (.bool false)], args := [d1, d2, d3] }
  | _ => none }
def WireEntriesWrongFalsely : Prop := wireEntriesRow.holds Try.pinned (OpenSpec.ofChange wireEntriesWrong)

/-- 'quoratelaw.WireSnapshots': WHATEVER THE INPUT: true; the input reads as it did. -/
def wireSnapshotsSpec : ChangeSpec := { name := "wireSnapshots", fn := fun _ => fun
  | [d1, d2, d3] => { results := [.lit (.bool true)], args := [d1, d2, d3] }
  | _ => none }
def wireSnapshotsRow : OpenClaim := { program := "ytbonmeogmjfkeaa", sum := "f8a00d6871c4481dbcfe9a672fd5e3b94beb88bf374b45fd042d1799a1ffc1c4", func := "quorate/quoratelaw.WireSnapshots", spec := "wireSnapshots", unfollowed := true, recurses := true, apart := false }
def WireSnapshotsSaid : Prop := wireSnapshotsRow.holds Try.pinned (OpenSpec.ofChange wireSnapshotsSpec)

/-- ITS FALSE NEIGHBOUR: 'it returns false'. Refute it at one input. -/
def wireSnapshotsWrong : ChangeSpec := { name := "wireSnapshots", fn := fun _ => fun
  | [d1, d2, d3] => { results := [.lit (.bool false)], args := [d1, d2, d3] }
  | _ => none }
def WireSnapshotsWrongFalsely : Prop := wireSnapshotsRow.holds Try.pinned (OpenSpec.ofChange wireSnapshotsWrong)

/-- 'quoratelaw.WireMessages': WHATEVER THE INPUT: true; the input reads as it did. -/
def wireMessagesSpec : ChangeSpec := { name := "wireMessages", fn := fun _ => fun
  | [d1, d2] => { results := [.lit (.bool true)], args := [d1, d2] }
  | _ => none }
def wireMessagesRow : OpenClaim := { program := "ytbonmeogmjfkeaa", sum := "f8a00d6871c4481dbcfe9a672fd5e3b94beb88bf374b45fd042d1799a1ffc1c4", func := "quorate/quoratelaw.WireMessages", spec := "wireMessages", unfollowed := true, recurses := true, apart := false }
def WireMessagesSaid : Prop := wireMessagesRow.holds Try.pinned (OpenSpec.ofChange wireMessagesSpec)

/-- ITS FALSE NEIGHBOUR: 'it returns false'. Refute it at one input. -/
def wireMessagesWrong : ChangeSpec := { name := "wireMessages", fn := fun _ => fun
  | [d1, d2] => { results := [.lit (.bool false)], args := [d1, d2] }
  | _ => none }
def WireMessagesWrongFalsely : Prop := wireMessagesRow.holds Try.pinned (OpenSpec.ofChange wireMessagesWrong)

/-- 'quoratekeep.WireBack': WHATEVER THE INPUT: true; the input reads as it did. -/
def wireBackSpec : ChangeSpec := { name := "wireBack", fn := fun _ => fun
  | [d1, d2, d3, d4] => { results := [.lit (.bool true)], args := [d1, d2, d3, d4] }
  | _ => none }
def wireBackRow : OpenClaim := { program := "ytbonmeogmjfkeaa", sum := "f8a00d6871c4481dbcfe9a672fd5e3b94beb88bf374b45fd042d1799a1ffc1c4", func := "quorate/quoratekeep.WireBack", spec := "wireBack", unfollowed := true, recurses := true, apart := false }
def WireBackSaid : Prop := wireBackRow.holds Try.pinned (OpenSpec.ofChange wireBackSpec)

/-- ITS FALSE NEIGHBOUR: 'it returns false'. Refute it at one input. -/
def wireBackWrong : ChangeSpec := { name := "wireBack", fn := fun _ => fun
  | [d1, d2, d3, d4] => { results := [.lit (.bool false)], args := [d1, d2, d3, d4] }
  | _ => none }
def WireBackWrongFalsely : Prop := wireBackRow.holds Try.pinned (OpenSpec.ofChange wireBackWrong)

/-- 'quoratekeep.WireStrict': WHATEVER THE INPUT: true; the input reads as it did. -/
def wireStrictSpec : ChangeSpec := { name := "wireStrict", fn := fun _ => fun
  | [d] => { results := [.lit (.bool true)], args := [d] }
  | _ => none }
def wireStrictRow : OpenClaim := { program := "ytbonmeogmjfkeaa", sum := "f8a00d6871c4481dbcfe9a672fd5e3b94beb88bf374b45fd042d1799a1ffc1c4", func := "quorate/quoratekeep.WireStrict", spec := "wireStrict", unfollowed := true, recurses := true, apart := false }
def WireStrictSaid : Prop := wireStrictRow.holds Try.pinned (OpenSpec.ofChange wireStrictSpec)

/-- ITS FALSE NEIGHBOUR: 'it returns false'. Refute it at one input. -/
def wireStrictWrong : ChangeSpec := { name := "wireStrict", fn := fun _ => fun
  | [d] => { results := [.lit (.bool false)], args := [d] }
  | _ => none }
def WireStrictWrongFalsely : Prop := wireStrictRow.holds Try.pinned (OpenSpec.ofChange wireStrictWrong)

/- THE SECOND FORM. 'bulk': how many values and letters a reading holds, each counted each time it is reached (what is shared counts as often as it is met; a slice's spare places count too). A statement '..UptoSaid' is the law's where the arguments, and the package variables that the reading takes, are together of bulk at most 1048576: NARROWER than '..Said'. Prove '..Said' where nothing that the law and all that it calls make is longer than what came in: it says more and counts as full. Else prove '..UptoSaid'. A law counts once. -/
mutual
def uptoBulk {H : Type} : DataW H → Nat
  | .lit (.string bytes) => bytes.length + 1
  | .lit _ => 1
  | .nil => 1
  | .ptr d => uptoBulk d + 1
  | .slice elems spare => uptoBulkAll elems + uptoBulkAll spare + 1
  | .agg parts => uptoBulkAll parts + 1
  | .iface _ d => uptoBulk d + 1
  | .map entries => uptoBulkEntries entries + 1
  | .held _ => 1
def uptoBulkAll {H : Type} : List (DataW H) → Nat
  | [] => 0
  | d :: r => uptoBulk d + uptoBulkAll r
def uptoBulkEntries {H : Type} : List (Lit × DataW H) → Nat
  | [] => 0
  | x :: r => uptoBulkEntry x + uptoBulkEntries r
def uptoBulkEntry {H : Type} : Lit × DataW H → Nat
  | (.string bytes, d) => bytes.length + uptoBulk d + 1
  | (_, d) => uptoBulk d + 1
 end
def uptoSmall : (H : Type) → List (DataW H) → Bool := fun _ ds => decide (uptoBulkAll ds ≤ 1048576)
def OpenSpec.upto (s : _root_.Go.ChangeSpec) : _root_.Go.OpenSpec := { _root_.Go.OpenSpec.ofChange s with cond := some uptoSmall }

/-- 'quoratelaw.Names', WHERE WHAT IT READS IS OF BULK AT MOST 1048576: true; the input reads as it did. -/
def namesUptoRow : OpenClaim := { program := "ytbonmeogmjfkeaa", sum := "f8a00d6871c4481dbcfe9a672fd5e3b94beb88bf374b45fd042d1799a1ffc1c4", func := "quorate/quoratelaw.Names", spec := "names", apart := false, narrowed := true }
def NamesUptoSaid : Prop := namesUptoRow.holds Try.pinned (OpenSpec.upto namesSpec)

/-- 'quoratelaw.WireNumbers', WHERE WHAT IT READS IS OF BULK AT MOST 1048576: true; the input reads as it did. -/
def wireNumbersUptoRow : OpenClaim := { program := "ytbonmeogmjfkeaa", sum := "f8a00d6871c4481dbcfe9a672fd5e3b94beb88bf374b45fd042d1799a1ffc1c4", func := "quorate/quoratelaw.WireNumbers", spec := "wireNumbers", unfollowed := true, recurses := true, apart := false, narrowed := true }
def WireNumbersUptoSaid : Prop := wireNumbersUptoRow.holds Try.pinned (OpenSpec.upto wireNumbersSpec)

/-- 'quoratelaw.RelayExact', WHERE WHAT IT READS IS OF BULK AT MOST 1048576: true; the input reads as it did. -/
def relayExactUptoRow : OpenClaim := { program := "ytbonmeogmjfkeaa", sum := "f8a00d6871c4481dbcfe9a672fd5e3b94beb88bf374b45fd042d1799a1ffc1c4", func := "quorate/quoratelaw.RelayExact", spec := "relayExact", unfollowed := true, recurses := true, apart := false, narrowed := true }
def RelayExactUptoSaid : Prop := relayExactUptoRow.holds Try.pinned (OpenSpec.upto relayExactSpec)

/-- 'quoratekeep.RelayOnce', WHERE WHAT IT READS IS OF BULK AT MOST 1048576: true; the input reads as it did. -/
def relayOnceUptoRow : OpenClaim := { program := "ytbonmeogmjfkeaa", sum := "f8a00d6871c4481dbcfe9a672fd5e3b94beb88bf374b45fd042d1799a1ffc1c4", func := "quorate/quoratekeep.RelayOnce", spec := "relayOnce", unfollowed := true, recurses := true, apart := false, narrowed := true }
def RelayOnceUptoSaid : Prop := relayOnceUptoRow.holds Try.pinned (OpenSpec.upto relayOnceSpec)

/-- 'quoratelaw.WireFrames', WHERE WHAT IT READS IS OF BULK AT MOST 1048576: true; the input reads as it did. -/
def wireFramesUptoRow : OpenClaim := { program := "ytbonmeogmjfkeaa", sum := "f8a00d6871c4481dbcfe9a672fd5e3b94beb88bf374b45fd042d1799a1ffc1c4", func := "quorate/quoratelaw.WireFrames", spec := "wireFrames", unfollowed := true, recurses := true, apart := false, narrowed := true }
def WireFramesUptoSaid : Prop := wireFramesUptoRow.holds Try.pinned (OpenSpec.upto wireFramesSpec)

/-- 'quoratekeep.WireTorn', WHERE WHAT IT READS IS OF BULK AT MOST 1048576: true; the input reads as it did. -/
def wireTornUptoRow : OpenClaim := { program := "ytbonmeogmjfkeaa", sum := "f8a00d6871c4481dbcfe9a672fd5e3b94beb88bf374b45fd042d1799a1ffc1c4", func := "quorate/quoratekeep.WireTorn", spec := "wireTorn", unfollowed := true, recurses := true, apart := false, narrowed := true }
def WireTornUptoSaid : Prop := wireTornUptoRow.holds Try.pinned (OpenSpec.upto wireTornSpec)

/-- 'quoratelaw.WireRequests', WHERE WHAT IT READS IS OF BULK AT MOST 1048576: true; the input reads as it did. -/
def wireRequestsUptoRow : OpenClaim := { program := "ytbonmeogmjfkeaa", sum := "f8a00d6871c4481dbcfe9a672fd5e3b94beb88bf374b45fd042d1799a1ffc1c4", func := "quorate/quoratelaw.WireRequests", spec := "wireRequests", unfollowed := true, recurses := true, apart := false, narrowed := true }
def WireRequestsUptoSaid : Prop := wireRequestsUptoRow.holds Try.pinned (OpenSpec.upto wireRequestsSpec)

/-- 'quoratelaw.WireEntries', WHERE WHAT IT READS IS OF BULK AT MOST 1048576: true; the input reads as it did. -/
def wireEntriesUptoRow : OpenClaim := { program := "ytbonmeogmjfkeaa", sum := "f8a00d6871c4481dbcfe9a672fd5e3b94beb88bf374b45fd042d1799a1ffc1c4", func := "quorate/quoratelaw.WireEntries", spec := "wireEntries", unfollowed := true, recurses := true, apart := false, narrowed := true }
def WireEntriesUptoSaid : Prop := wireEntriesUptoRow.holds Try.pinned (OpenSpec.upto wireEntriesSpec)

/-- 'quoratelaw.WireSnapshots', WHERE WHAT IT READS IS OF BULK AT MOST 1048576: true; the input reads as it did. -/
def wireSnapshotsUptoRow : OpenClaim := { program := "ytbonmeogmjfkeaa", sum := "f8a00d6871c4481dbcfe9a672fd5e3b94beb88bf374b45fd042d1799a1ffc1c4", func := "quorate/quoratelaw.WireSnapshots", spec := "wireSnapshots", unfollowed := true, recurses := true, apart := false, narrowed := true }
def WireSnapshotsUptoSaid : Prop := wireSnapshotsUptoRow.holds Try.pinned (OpenSpec.upto wireSnapshotsSpec)

/-- 'quoratelaw.WireMessages', WHERE WHAT IT READS IS OF BULK AT MOST 1048576: true; the input reads as it did. -/
def wireMessagesUptoRow : OpenClaim := { program := "ytbonmeogmjfkeaa", sum := "f8a00d6871c4481dbcfe9a672fd5e3b94beb88bf374b45fd042d1799a1ffc1c4", func := "quorate/quoratelaw.WireMessages", spec := "wireMessages", unfollowed := true, recurses := true, apart := false, narrowed := true }
def WireMessagesUptoSaid : Prop := wireMessagesUptoRow.holds Try.pinned (OpenSpec.upto wireMessagesSpec)

/-- 'quoratekeep.WireBack', WHERE WHAT IT READS IS OF BULK AT MOST 1048576: true; the input reads as it did. -/
def wireBackUptoRow : OpenClaim := { program := "ytbonmeogmjfkeaa", sum := "f8a00d6871c4481dbcfe9a672fd5e3b94beb88bf374b45fd042d1799a1ffc1c4", func := "quorate/quoratekeep.WireBack", spec := "wireBack", unfollowed := true, recurses := true, apart := false, narrowed := true }
def WireBackUptoSaid : Prop := wireBackUptoRow.holds Try.pinned (OpenSpec.upto wireBackSpec)

/-- 'quoratekeep.WireStrict', WHERE WHAT IT READS IS OF BULK AT MOST 1048576: true; the input reads as it did. -/
def wireStrictUptoRow : OpenClaim := { program := "ytbonmeogmjfkeaa", sum := "f8a00d6871c4481dbcfe9a672fd5e3b94beb88bf374b45fd042d1799a1ffc1c4", func := "quorate/quoratekeep.WireStrict", spec := "wireStrict", unfollowed := true, recurses := true, apart := false, narrowed := true }
def WireStrictUptoSaid : Prop := wireStrictUptoRow.holds Try.pinned (OpenSpec.upto wireStrictSpec)

end Rows
end Go.Proofs.Ytbonmeogmjfkeaa
