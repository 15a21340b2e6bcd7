/-
  No cell of these rows narrows 'for every input' (looked for: loops, veiled, ifaces, maps, wideKeys, modest, calm, conditions, laid).
  DERIVED. THE GIVEN ROWS OF THIS SEAT. 12 by the template 'for every input the law returns true; each argument reads behind the call as it read before'; 0 by the template 'total and deterministic' (their statements: YtckclacdmpcpbaaTotals.lean).
  GIVEN WITH THE SEED: the statements are not yours to turn. If you find one false, say at which input.
  Laid BY PROGRAM, IN A SANDBOX (cutbox-rows.mjs): the forced cells as the released guide's own fill.sh prints them over the translation 78f6bf5d9b8ad091… (all of the seat's roots in one cut). By AI agents, Wed Nov 11 2026. No macro, syntax, notation, axiom, sorry.
-/
import Derived.Test.YtckclacdmpcpbaaChecked
import GoSem.Claim
import GoSem.ClaimJoined
import GoSem.ClaimMapViews
import Derived.JoinedTies
import Derived.KernelRfl
namespace Go.Proofs.Ytckclacdmpcpbaa
/- THE CELL 'sum', in the pinned program and in every row, IS THE sha256 OF THE DUMP (.gsa) THAT YtckclacdmpcpbaaProg.lean LOADS. Nothing in Lean hashes anything: it is a label: what it is worth is what the hold of that sum in a sandbox is worth. -/
noncomputable def Try.pinned : Pinned := { name := "ytckclacdmpcpbaa", sum := "78f6bf5d9b8ad09153d0b6c5a416e4c08f2370964730bb080ed4491f0bd6d7aa", checked := Try.checked }
namespace Rows
def none {H : Type} : Left H := { results := [], args := [] }

/-- 'quoratelaw.RelayExact': WHATEVER THE INPUT: true; the input reads as it did. -/
def relayExactSpec : ChangeSpec := { name := "relayExact", fn := fun _ => fun
  | [d1, d2] => { results := [.lit (.bool true)], args := [d1, d2] }
  | _ => none }
def relayExactRow : OpenClaim := { program := "ytckclacdmpcpbaa", sum := "78f6bf5d9b8ad09153d0b6c5a416e4c08f2370964730bb080ed4491f0bd6d7aa", func := "quorate/quoratelaw.RelayExact", spec := "relayExact", unfollowed := true, recurses := true, plainKeys := false, apart := false }
def RelayExactSaid : Prop := relayExactRow.holds Try.pinned (OpenSpec.ofChange relayExactSpec)

/-- ITS FALSE NEIGHBOUR: 'it returns false'. Refute it at one input. -/
def relayExactWrong : ChangeSpec := { name := "relayExact", fn := fun _ => fun
  | [d1, d2] => { results := [.lit (.bool false)], args := [d1, d2] }
  | _ => none }
def RelayExactWrongFalsely : Prop := relayExactRow.holds Try.pinned (OpenSpec.ofChange relayExactWrong)

/-- 'quoratekeep.RelayOnce': WHATEVER THE INPUT: true; the input reads as it did. -/
def relayOnceSpec : ChangeSpec := { name := "relayOnce", fn := fun _ => fun
  | [d] => { results := [.lit (.bool true)], args := [d] }
  | _ => none }
def relayOnceRow : OpenClaim := { program := "ytckclacdmpcpbaa", sum := "78f6bf5d9b8ad09153d0b6c5a416e4c08f2370964730bb080ed4491f0bd6d7aa", func := "quorate/quoratekeep.RelayOnce", spec := "relayOnce", unfollowed := true, recurses := true, plainKeys := false, apart := false }
def RelayOnceSaid : Prop := relayOnceRow.holds Try.pinned (OpenSpec.ofChange relayOnceSpec)

/-- ITS FALSE NEIGHBOUR: 'it returns false'. Refute it at one input. -/
def relayOnceWrong : ChangeSpec := { name := "relayOnce", fn := fun _ => fun
  | [d] => { results := [.lit (.bool false)], args := [d] }
  | _ => none }
def RelayOnceWrongFalsely : Prop := relayOnceRow.holds Try.pinned (OpenSpec.ofChange relayOnceWrong)

/-- 'quoratekeep.ClientOnce': WHATEVER THE INPUT: true; the input reads as it did. -/
def clientOnceSpec : ChangeSpec := { name := "clientOnce", fn := fun _ => fun
  | [d1, d2] => { results := [.lit (.bool true)], args := [d1, d2] }
  | _ => none }
def clientOnceRow : OpenClaim := { program := "ytckclacdmpcpbaa", sum := "78f6bf5d9b8ad09153d0b6c5a416e4c08f2370964730bb080ed4491f0bd6d7aa", func := "quorate/quoratekeep.ClientOnce", spec := "clientOnce", plainKeys := false, apart := false }
def ClientOnceSaid : Prop := clientOnceRow.holds Try.pinned (OpenSpec.ofChange clientOnceSpec)

/-- ITS FALSE NEIGHBOUR: 'it returns false'. Refute it at one input. -/
def clientOnceWrong : ChangeSpec := { name := "clientOnce", fn := fun _ => fun
  | [d1, d2] => { results := [.lit (.bool false)], args := [d1, d2] }
  | _ => none }
def ClientOnceWrongFalsely : Prop := clientOnceRow.holds Try.pinned (OpenSpec.ofChange clientOnceWrong)

/-- 'quoratelaw.ExploreExact': WHATEVER THE INPUT: true; the input reads as it did. -/
def exploreExactSpec : ChangeSpec := { name := "exploreExact", fn := fun _ => fun
  | [d] => { results := [.lit (.bool true)], args := [d] }
  | _ => none }
def exploreExactRow : OpenClaim := { program := "ytckclacdmpcpbaa", sum := "78f6bf5d9b8ad09153d0b6c5a416e4c08f2370964730bb080ed4491f0bd6d7aa", func := "quorate/quoratelaw.ExploreExact", spec := "exploreExact", unfollowed := true, recurses := true, plainKeys := false, apart := false }
def ExploreExactSaid : Prop := exploreExactRow.holds Try.pinned (OpenSpec.ofChange exploreExactSpec)

/-- ITS FALSE NEIGHBOUR: 'it returns false'. Refute it at one input. -/
def exploreExactWrong : ChangeSpec := { name := "exploreExact", fn := fun _ => fun
  | [d] => { results := [.lit (.bool false)], args := [d] }
  | _ => none }
def ExploreExactWrongFalsely : Prop := exploreExactRow.holds Try.pinned (OpenSpec.ofChange exploreExactWrong)

/-- 'quoratekeep.ExploreSafe': WHATEVER THE INPUT: true; the input reads as it did. -/
def exploreSafeSpec : ChangeSpec := { name := "exploreSafe", fn := fun _ => fun
  | [d1, d2, d3, d4] => { results := [.lit (.bool true)], args := [d1, d2, d3, d4] }
  | _ => none }
def exploreSafeRow : OpenClaim := { program := "ytckclacdmpcpbaa", sum := "78f6bf5d9b8ad09153d0b6c5a416e4c08f2370964730bb080ed4491f0bd6d7aa", func := "quorate/quoratekeep.ExploreSafe", spec := "exploreSafe", unfollowed := true, recurses := true, plainKeys := false, apart := false }
def ExploreSafeSaid : Prop := exploreSafeRow.holds Try.pinned (OpenSpec.ofChange exploreSafeSpec)

/-- ITS FALSE NEIGHBOUR: 'it returns false'. Refute it at one input. -/
def exploreSafeWrong : ChangeSpec := { name := "exploreSafe", fn := fun _ => fun
  | [d1, d2, d3, d4] => { results := [.lit (.bool false)], args := [d1, d2, d3, d4] }
  | _ => none }
def ExploreSafeWrongFalsely : Prop := exploreSafeRow.holds Try.pinned (OpenSpec.ofChange exploreSafeWrong)

/-- 'quoratekeep.ExploreFinds': WHATEVER THE INPUT: true; the input reads as it did. -/
def exploreFindsSpec : ChangeSpec := { name := "exploreFinds", fn := fun _ => fun
  | [d] => { results := [.lit (.bool true)], args := [d] }
  | _ => none }
def exploreFindsRow : OpenClaim := { program := "ytckclacdmpcpbaa", sum := "78f6bf5d9b8ad09153d0b6c5a416e4c08f2370964730bb080ed4491f0bd6d7aa", func := "quorate/quoratekeep.ExploreFinds", spec := "exploreFinds", unfollowed := true, recurses := true, plainKeys := false, apart := false }
def ExploreFindsSaid : Prop := exploreFindsRow.holds Try.pinned (OpenSpec.ofChange exploreFindsSpec)

/-- ITS FALSE NEIGHBOUR: 'it returns false'. Refute it at one input. -/
def exploreFindsWrong : ChangeSpec := { name := "exploreFinds", fn := fun _ => fun
  | [d] => { results := [.lit (.bool false)], args := [d] }
  | _ => none }
def ExploreFindsWrongFalsely : Prop := exploreFindsRow.holds Try.pinned (OpenSpec.ofChange exploreFindsWrong)

/-- 'quoratelaw.ConfigExact': WHATEVER THE INPUT: true; the input reads as it did. -/
def configExactSpec : ChangeSpec := { name := "configExact", fn := fun _ => fun
  | [d1, d2, d3] => { results := [.lit (.bool true)], args := [d1, d2, d3] }
  | _ => none }
def configExactRow : OpenClaim := { program := "ytckclacdmpcpbaa", sum := "78f6bf5d9b8ad09153d0b6c5a416e4c08f2370964730bb080ed4491f0bd6d7aa", func := "quorate/quoratelaw.ConfigExact", spec := "configExact", unfollowed := true, recurses := true, plainKeys := false, apart := false }
def ConfigExactSaid : Prop := configExactRow.holds Try.pinned (OpenSpec.ofChange configExactSpec)

/-- ITS FALSE NEIGHBOUR: 'it returns false'. Refute it at one input. -/
def configExactWrong : ChangeSpec := { name := "configExact", fn := fun _ => fun
  | [d1, d2, d3] => { results := [.lit (.bool false)], args := [d1, d2, d3] }
  | _ => none }
def ConfigExactWrongFalsely : Prop := configExactRow.holds Try.pinned (OpenSpec.ofChange configExactWrong)

/-- 'quoratekeep.ConfigMeets': WHATEVER THE INPUT: true; the input reads as it did. -/
def configMeetsSpec : ChangeSpec := { name := "configMeets", fn := fun _ => fun
  | [d1, d2, d3, d4, d5] => { results := [.lit (.bool true)], args := [d1, d2, d3, d4, d5] }
  | _ => none }
def configMeetsRow : OpenClaim := { program := "ytckclacdmpcpbaa", sum := "78f6bf5d9b8ad09153d0b6c5a416e4c08f2370964730bb080ed4491f0bd6d7aa", func := "quorate/quoratekeep.ConfigMeets", spec := "configMeets", unfollowed := true, recurses := true, plainKeys := false, apart := false }
def ConfigMeetsSaid : Prop := configMeetsRow.holds Try.pinned (OpenSpec.ofChange configMeetsSpec)

/-- ITS FALSE NEIGHBOUR: 'it returns false'. Refute it at one input. -/
def configMeetsWrong : ChangeSpec := { name := "configMeets", fn := fun _ => fun
  | [d1, d2, d3, d4, d5] => { results := [.lit (.bool false)], args := [d1, d2, d3, d4, d5] }
  | _ => none }
def ConfigMeetsWrongFalsely : Prop := configMeetsRow.holds Try.pinned (OpenSpec.ofChange configMeetsWrong)

/-- 'quoratekeep.TrackSafe': WHATEVER THE INPUT: true; the input reads as it did. -/
def trackSafeSpec : ChangeSpec := { name := "trackSafe", fn := fun _ => fun
  | [d1, d2, d3, d4] => { results := [.lit (.bool true)], args := [d1, d2, d3, d4] }
  | _ => none }
def trackSafeRow : OpenClaim := { program := "ytckclacdmpcpbaa", sum := "78f6bf5d9b8ad09153d0b6c5a416e4c08f2370964730bb080ed4491f0bd6d7aa", func := "quorate/quoratekeep.TrackSafe", spec := "trackSafe", unfollowed := true, recurses := true, plainKeys := false, apart := false }
def TrackSafeSaid : Prop := trackSafeRow.holds Try.pinned (OpenSpec.ofChange trackSafeSpec)

/-- ITS FALSE NEIGHBOUR: 'it returns false'. Refute it at one input. -/
def trackSafeWrong : ChangeSpec := { name := "trackSafe", fn := fun _ => fun
  | [d1, d2, d3, d4] => { results := [.lit (.bool false)], args := [d1, d2, d3, d4] }
  | _ => none }
def TrackSafeWrongFalsely : Prop := trackSafeRow.holds Try.pinned (OpenSpec.ofChange trackSafeWrong)

/-- 'quoratelaw.TrackExact': WHATEVER THE INPUT: true; the input reads as it did. -/
def trackExactSpec : ChangeSpec := { name := "trackExact", fn := fun _ => fun
  | [d1, d2, d3, d4, d5, d6, d7] => { results := [.lit (.bool true)], args := [d1, d2, d3, d4, d5, d6, d7] }
  | _ => none }
def trackExactRow : OpenClaim := { program := "ytckclacdmpcpbaa", sum := "78f6bf5d9b8ad09153d0b6c5a416e4c08f2370964730bb080ed4491f0bd6d7aa", func := "quorate/quoratelaw.TrackExact", spec := "trackExact", unfollowed := true, recurses := true, plainKeys := false, apart := false }
def TrackExactSaid : Prop := trackExactRow.holds Try.pinned (OpenSpec.ofChange trackExactSpec)

/-- ITS FALSE NEIGHBOUR: 'it returns false'. Refute it at one input. -/
def trackExactWrong : ChangeSpec := { name := "trackExact", fn := fun _ => fun
  | [d1, d2, d3, d4, d5, d6, d7] => { results := [.lit (.bool false)], args := [d1, d2, d3, d4, d5, d6, d7] }
  | _ => none }
def TrackExactWrongFalsely : Prop := trackExactRow.holds Try.pinned (OpenSpec.ofChange trackExactWrong)

/-- 'quoratelaw.ShardExact': WHATEVER THE INPUT: true; the input reads as it did. -/
def shardExactSpec : ChangeSpec := { name := "shardExact", fn := fun _ => fun
  | [d1, d2, d3] => { results := [.lit (.bool true)], args := [d1, d2, d3] }
  | _ => none }
def shardExactRow : OpenClaim := { program := "ytckclacdmpcpbaa", sum := "78f6bf5d9b8ad09153d0b6c5a416e4c08f2370964730bb080ed4491f0bd6d7aa", func := "quorate/quoratelaw.ShardExact", spec := "shardExact", inPlace := ["internal/bytealg.abigen_runtime_cmpstring", "slices.overlaps[quorate/api.Item]"], unfollowed := true, recurses := true, plainKeys := false, apart := false }
def ShardExactSaid : Prop := shardExactRow.holds Try.pinned (OpenSpec.ofChange shardExactSpec)

/-- ITS FALSE NEIGHBOUR: 'it returns false'. Refute it at one input. -/
def shardExactWrong : ChangeSpec := { name := "shardExact", fn := fun _ => fun
  | [d1, d2, d3] => { results := [.lit (.bool false)], args := [d1, d2, d3] }
  | _ => none }
def ShardExactWrongFalsely : Prop := shardExactRow.holds Try.pinned (OpenSpec.ofChange shardExactWrong)

/-- 'quoratekeep.ShardMap': WHATEVER THE INPUT: true; the input reads as it did. -/
def shardMapSpec : ChangeSpec := { name := "shardMap", fn := fun _ => fun
  | [d1, d2] => { results := [.lit (.bool true)], args := [d1, d2] }
  | _ => none }
def shardMapRow : OpenClaim := { program := "ytckclacdmpcpbaa", sum := "78f6bf5d9b8ad09153d0b6c5a416e4c08f2370964730bb080ed4491f0bd6d7aa", func := "quorate/quoratekeep.ShardMap", spec := "shardMap", inPlace := ["internal/bytealg.abigen_runtime_cmpstring", "slices.overlaps[quorate/api.Item]"], unfollowed := true, recurses := true, plainKeys := false, apart := false }
def ShardMapSaid : Prop := shardMapRow.holds Try.pinned (OpenSpec.ofChange shardMapSpec)

/-- ITS FALSE NEIGHBOUR: 'it returns false'. Refute it at one input. -/
def shardMapWrong : ChangeSpec := { name := "shardMap", fn := fun _ => fun
  | [d1, d2] => { results := [.lit (.bool false)], args := [d1, d2] }
  | _ => none }
def ShardMapWrongFalsely : Prop := shardMapRow.holds Try.pinned (OpenSpec.ofChange shardMapWrong)

/- THE SECOND FORM. 'bulk': how many values and letters a reading holds, each counted each time it is reached (what is shared counts as often as it is met; a slice's spare places count too). A statement '..UptoSaid' is the law's where the arguments, and the package variables that the reading takes, are together of bulk at most 1048576: NARROWER than '..Said'. Prove '..Said' where nothing that the law and all that it calls make is longer than what came in: it says more and counts as full. Else prove '..UptoSaid'. A law counts once. -/
mutual
def uptoBulk {H : Type} : DataW H → Nat
  | .lit (.string bytes) => bytes.length + 1
  | .lit _ => 1
  | .nil => 1
  | .ptr d => uptoBulk d + 1
  | .slice elems spare => uptoBulkAll elems + uptoBulkAll spare + 1
  | .agg parts => uptoBulkAll parts + 1
  | .iface _ d => uptoBulk d + 1
  | .map entries => uptoBulkEntries entries + 1
  | .held _ => 1
def uptoBulkAll {H : Type} : List (DataW H) → Nat
  | [] => 0
  | d :: r => uptoBulk d + uptoBulkAll r
def uptoBulkEntries {H : Type} : List (Lit × DataW H) → Nat
  | [] => 0
  | x :: r => uptoBulkEntry x + uptoBulkEntries r
def uptoBulkEntry {H : Type} : Lit × DataW H → Nat
  | (.string bytes, d) => bytes.length + uptoBulk d + 1
  | (_, d) => uptoBulk d + 1
 end
def uptoSmall : (H : Type) → List (DataW H) → Bool := fun _ ds => decide (uptoBulkAll ds ≤ 1048576)
def OpenSpec.upto (s : _root_.Go.ChangeSpec) : _root_.Go.OpenSpec := { _root_.Go.OpenSpec.ofChange s with cond := some uptoSmall }

/-- 'quoratelaw.RelayExact', WHERE WHAT IT READS IS OF BULK AT MOST 1048576: true; the input reads as it did. -/
def relayExactUptoRow : OpenClaim := { program := "ytckclacdmpcpbaa", sum := "78f6bf5d9b8ad09153d0b6c5a416e4c08f2370964730bb080ed4491f0bd6d7aa", func := "quorate/quoratelaw.RelayExact", spec := "relayExact", unfollowed := true, recurses := true, plainKeys := false, apart := false, narrowed := true }
def RelayExactUptoSaid : Prop := relayExactUptoRow.holds Try.pinned (OpenSpec.upto relayExactSpec)

/-- 'quoratekeep.RelayOnce', WHERE WHAT IT READS IS OF BULK AT MOST 1048576: true; the input reads as it did. -/
def relayOnceUptoRow : OpenClaim := { program := "ytckclacdmpcpbaa", sum := "78f6bf5d9b8ad09153d0b6c5a416e4c08f2370964730bb080ed4491f0bd6d7aa", func := "quorate/quoratekeep.RelayOnce", spec := "relayOnce", unfollowed := true, recurses := true, plainKeys := false, apart := false, narrowed := true }
def RelayOnceUptoSaid : Prop := relayOnceUptoRow.holds Try.pinned (OpenSpec.upto relayOnceSpec)

/-- 'quoratekeep.ClientOnce', WHERE WHAT IT READS IS OF BULK AT MOST 1048576: true; the input reads as it did. -/
def clientOnceUptoRow : OpenClaim := { program := "ytckclacdmpcpbaa", sum := "78f6bf5d9b8ad09153d0b6c5a416e4c08f2370964730bb080ed4491f0bd6d7aa", func := "quorate/quoratekeep.ClientOnce", spec := "clientOnce", plainKeys := false, apart := false, narrowed := true }
def ClientOnceUptoSaid : Prop := clientOnceUptoRow.holds Try.pinned (OpenSpec.upto clientOnceSpec)

/-- 'quoratelaw.ExploreExact', WHERE WHAT IT READS IS OF BULK AT MOST 1048576: true; the input reads as it did. -/
def exploreExactUptoRow : OpenClaim := { program := "ytckclacdmpcpbaa", sum := "78f6bf5d9b8ad09153d0b6c5a416e4c08f2370964730bb080ed4491f0bd6d7aa", func := "quorate/quoratelaw.ExploreExact", spec := "exploreExact", unfollowed := true, recurses := true, plainKeys := false, apart := false, narrowed := true }
def ExploreExactUptoSaid : Prop := exploreExactUptoRow.holds Try.pinned (OpenSpec.upto exploreExactSpec)

/-- 'quoratekeep.ExploreSafe', WHERE WHAT IT READS IS OF BULK AT MOST 1048576: true; the input reads as it did. -/
def exploreSafeUptoRow : OpenClaim := { program := "ytckclacdmpcpbaa", sum := "78f6bf5d9b8ad09153d0b6c5a416e4c08f2370964730bb080ed4491f0bd6d7aa", func := "quorate/quoratekeep.ExploreSafe", spec := "exploreSafe", unfollowed := true, recurses := true, plainKeys := false, apart := false, narrowed := true }
def ExploreSafeUptoSaid : Prop := exploreSafeUptoRow.holds Try.pinned (OpenSpec.upto exploreSafeSpec)

/-- 'quoratekeep.ExploreFinds', WHERE WHAT IT READS IS OF BULK AT MOST 1048576: true; the input reads as it did. -/
def exploreFindsUptoRow : OpenClaim := { program := "ytckclacdmpcpbaa", sum := "78f6bf5d9b8ad09153d0b6c5a416e4c08f2370964730bb080ed4491f0bd6d7aa", func := "quorate/quoratekeep.ExploreFinds", spec := "exploreFinds", unfollowed := true, recurses := true, plainKeys := false, apart := false, narrowed := true }
def ExploreFindsUptoSaid : Prop := exploreFindsUptoRow.holds Try.pinned (OpenSpec.upto exploreFindsSpec)

/-- 'quoratelaw.ConfigExact', WHERE WHAT IT READS IS OF BULK AT MOST 1048576: true; the input reads as it did. -/
def configExactUptoRow : OpenClaim := { program := "ytckclacdmpcpbaa", sum := "78f6bf5d9b8ad09153d0b6c5a416e4c08f2370964730bb080ed4491f0bd6d7aa", func := "quorate/quoratelaw.ConfigExact", spec := "configExact", unfollowed := true, recurses := true, plainKeys := false, apart := false, narrowed := true }
def ConfigExactUptoSaid : Prop := configExactUptoRow.holds Try.pinned (OpenSpec.upto configExactSpec)

/-- 'quoratekeep.ConfigMeets', WHERE WHAT IT READS IS OF BULK AT MOST 1048576: true; the input reads as it did. -/
def configMeetsUptoRow : OpenClaim := { program := "ytckclacdmpcpbaa", sum := "78f6bf5d9b8ad09153d0b6c5a416e4c08f2370964730bb080ed4491f0bd6d7aa", func := "quorate/quoratekeep.ConfigMeets", spec := "configMeets", unfollowed := true, recurses := true, plainKeys := false, apart := false, narrowed := true }
def ConfigMeetsUptoSaid : Prop := configMeetsUptoRow.holds Try.pinned (OpenSpec.upto configMeetsSpec)

/-- 'quoratekeep.TrackSafe', WHERE WHAT IT READS IS OF BULK AT MOST 1048576: true; the input reads as it did. -/
def trackSafeUptoRow : OpenClaim := { program := "ytckclacdmpcpbaa", sum := "78f6bf5d9b8ad09153d0b6c5a416e4c08f2370964730bb080ed4491f0bd6d7aa", func := "quorate/quoratekeep.TrackSafe", spec := "trackSafe", unfollowed := true, recurses := true, plainKeys := false, apart := false, narrowed := true }
def TrackSafeUptoSaid : Prop := trackSafeUptoRow.holds Try.pinned (OpenSpec.upto trackSafeSpec)

/-- 'quoratelaw.TrackExact', WHERE WHAT IT READS IS OF BULK AT MOST 1048576: true; the input reads as it did. -/
def trackExactUptoRow : OpenClaim := { program := "ytckclacdmpcpbaa", sum := "78f6bf5d9b8ad09153d0b6c5a416e4c08f2370964730bb080ed4491f0bd6d7aa", func := "quorate/quoratelaw.TrackExact", spec := "trackExact", unfollowed := true, recurses := true, plainKeys := false, apart := false, narrowed := true }
def TrackExactUptoSaid : Prop := trackExactUptoRow.holds Try.pinned (OpenSpec.upto trackExactSpec)

/-- 'quoratelaw.ShardExact', WHERE WHAT IT READS IS OF BULK AT MOST 1048576: true; the input reads as it did. -/
def shardExactUptoRow : OpenClaim := { program := "ytckclacdmpcpbaa", sum := "78f6bf5d9b8ad09153d0b6c5a416e4c08f2370964730bb080ed4491f0bd6d7aa", func := "quorate/quoratelaw.ShardExact", spec := "shardExact", inPlace := ["internal/bytealg.abigen_runtime_cmpstring", "slices.overlaps[quorate/api.Item]"], unfollowed := true, recurses := true, plainKeys := false, apart := false, narrowed := true }
def ShardExactUptoSaid : Prop := shardExactUptoRow.holds Try.pinned (OpenSpec.upto shardExactSpec)

/-- 'quoratekeep.ShardMap', WHERE WHAT IT READS IS OF BULK AT MOST 1048576: true; the input reads as it did. -/
def shardMapUptoRow : OpenClaim := { program := "ytckclacdmpcpbaa", sum := "78f6bf5d9b8ad09153d0b6c5a416e4c08f2370964730bb080ed4491f0bd6d7aa", func := "quorate/quoratekeep.ShardMap", spec := "shardMap", inPlace := ["internal/bytealg.abigen_runtime_cmpstring", "slices.overlaps[quorate/api.Item]"], unfollowed := true, recurses := true, plainKeys := false, apart := false, narrowed := true }
def ShardMapUptoSaid : Prop := shardMapUptoRow.holds Try.pinned (OpenSpec.upto shardMapSpec)

end Rows
end Go.Proofs.Ytckclacdmpcpbaa
