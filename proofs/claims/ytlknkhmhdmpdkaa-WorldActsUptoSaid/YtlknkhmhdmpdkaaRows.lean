/-
  No cell of these rows narrows 'for every input' (looked for: loops, veiled, ifaces, maps, wideKeys, modest, calm, conditions, laid).
  DERIVED. THE GIVEN ROWS OF THIS SEAT. 12 by the template 'for every input the law returns true; each argument reads behind the call as it read before'; 0 by the template 'total and deterministic' (their statements: YtlknkhmhdmpdkaaTotals.lean).
  GIVEN WITH THE SEED: the statements are not yours to turn. If you find one false, say at which input.
  Laid BY PROGRAM, IN A SANDBOX (cutbox-rows.mjs): the forced cells as the released guide's own fill.sh prints them over the translation e4eb5f9917e0b8f8… (all of the seat's roots in one cut). By AI agents, Wed Nov 11 2026. No macro, syntax, notation, axiom, sorry.
-/
import Derived.Test.YtlknkhmhdmpdkaaChecked
import GoSem.Claim
import GoSem.ClaimJoined
import GoSem.ClaimMapViews
import Derived.JoinedTies
import Derived.KernelRfl
namespace Go.Proofs.Ytlknkhmhdmpdkaa
/- THE CELL 'sum', in the pinned program and in every row, IS THE sha256 OF THE DUMP (.gsa) THAT YtlknkhmhdmpdkaaProg.lean LOADS. Nothing in Lean hashes anything: it is a label: what it is worth is what the hold of that sum in a sandbox is worth. -/
noncomputable def Try.pinned : Pinned := { name := "ytlknkhmhdmpdkaa", sum := "e4eb5f9917e0b8f81d0b5fec58835673830dc4b771e40cf261e203e8263e2abb", checked := Try.checked }
namespace Rows
def none {H : Type} : Left H := { results := [], args := [] }

/-- 'quoratelaw.WorldActs': WHATEVER THE INPUT: true; the input reads as it did. -/
def worldActsSpec : ChangeSpec := { name := "worldActs", fn := fun _ => fun
  | [d] => { results := [.lit (.bool true)], args := [d] }
  | _ => none }
def worldActsRow : OpenClaim := { program := "ytlknkhmhdmpdkaa", sum := "e4eb5f9917e0b8f81d0b5fec58835673830dc4b771e40cf261e203e8263e2abb", func := "quorate/quoratelaw.WorldActs", spec := "worldActs", unfollowed := true, recurses := true, apart := false }
def WorldActsSaid : Prop := worldActsRow.holds Try.pinned (OpenSpec.ofChange worldActsSpec)

/-- ITS FALSE NEIGHBOUR: 'it returns false'. Refute it at one input. -/
def worldActsWrong : ChangeSpec := { name := "worldActs", fn := fun _ => fun
  | [d] => { results := [.lit (.bool false)], args := [d] }
  | _ => none }
def WorldActsWrongFalsely : Prop := worldActsRow.holds Try.pinned (OpenSpec.ofChange worldActsWrong)

/-- 'quoratelaw.DelegExact': WHATEVER THE INPUT: true; the input reads as it did. -/
def delegExactSpec : ChangeSpec := { name := "delegExact", fn := fun _ => fun
  | [d1, d2, d3, d4, d5] => { results := [.lit (.bool true)], args := [d1, d2, d3, d4, d5] }
  | _ => none }
def delegExactRow : OpenClaim := { program := "ytlknkhmhdmpdkaa", sum := "e4eb5f9917e0b8f81d0b5fec58835673830dc4b771e40cf261e203e8263e2abb", func := "quorate/quoratelaw.DelegExact", spec := "delegExact", unfollowed := true, recurses := true, apart := false }
def DelegExactSaid : Prop := delegExactRow.holds Try.pinned (OpenSpec.ofChange delegExactSpec)

/-- ITS FALSE NEIGHBOUR: 'it returns false'. Refute it at one input. -/
def delegExactWrong : ChangeSpec := { name := "delegExact", fn := fun _ => fun
  | [d1, d2, d3, d4, d5] => { results := [.lit (.bool false)], args := [d1, d2, d3, d4, d5] }
  | _ => none }
def DelegExactWrongFalsely : Prop := delegExactRow.holds Try.pinned (OpenSpec.ofChange delegExactWrong)

/-- 'quoratekeep.DelegFunction': WHATEVER THE INPUT: true; the input reads as it did. -/
def delegFunctionSpec : ChangeSpec := { name := "delegFunction", fn := fun _ => fun
  | [d1, d2] => { results := [.lit (.bool true)], args := [d1, d2] }
  | _ => none }
def delegFunctionRow : OpenClaim := { program := "ytlknkhmhdmpdkaa", sum := "e4eb5f9917e0b8f81d0b5fec58835673830dc4b771e40cf261e203e8263e2abb", func := "quorate/quoratekeep.DelegFunction", spec := "delegFunction", unfollowed := true, recurses := true, apart := false }
def DelegFunctionSaid : Prop := delegFunctionRow.holds Try.pinned (OpenSpec.ofChange delegFunctionSpec)

/-- ITS FALSE NEIGHBOUR: 'it returns false'. Refute it at one input. -/
def delegFunctionWrong : ChangeSpec := { name := "delegFunction", fn := fun _ => fun
  | [d1, d2] => { results := [.lit (.bool false)], args := [d1, d2] }
  | _ => none }
def DelegFunctionWrongFalsely : Prop := delegFunctionRow.holds Try.pinned (OpenSpec.ofChange delegFunctionWrong)

/-- 'quoratekeep.RlogMatch': WHATEVER THE INPUT: true; the input reads as it did. -/
def rlogMatchSpec : ChangeSpec := { name := "rlogMatch", fn := fun _ => fun
  | [d1, d2, d3, d4, d5] => { results := [.lit (.bool true)], args := [d1, d2, d3, d4, d5] }
  | _ => none }
def rlogMatchRow : OpenClaim := { program := "ytlknkhmhdmpdkaa", sum := "e4eb5f9917e0b8f81d0b5fec58835673830dc4b771e40cf261e203e8263e2abb", func := "quorate/quoratekeep.RlogMatch", spec := "rlogMatch", apart := false }
def RlogMatchSaid : Prop := rlogMatchRow.holds Try.pinned (OpenSpec.ofChange rlogMatchSpec)

/-- ITS FALSE NEIGHBOUR: 'it returns false'. Refute it at one input. -/
def rlogMatchWrong : ChangeSpec := { name := "rlogMatch", fn := fun _ => fun
  | [d1, d2, d3, d4, d5] => { results := [.lit (.bool false)], args := [d1, d2, d3, d4, d5] }
  | _ => none }
def RlogMatchWrongFalsely : Prop := rlogMatchRow.holds Try.pinned (OpenSpec.ofChange rlogMatchWrong)

/-- 'quoratelaw.RlogExact': WHATEVER THE INPUT: true; the input reads as it did. -/
def rlogExactSpec : ChangeSpec := { name := "rlogExact", fn := fun _ => fun
  | [d1, d2, d3, d4, d5] => { results := [.lit (.bool true)], args := [d1, d2, d3, d4, d5] }
  | _ => none }
def rlogExactRow : OpenClaim := { program := "ytlknkhmhdmpdkaa", sum := "e4eb5f9917e0b8f81d0b5fec58835673830dc4b771e40cf261e203e8263e2abb", func := "quorate/quoratelaw.RlogExact", spec := "rlogExact", apart := false }
def RlogExactSaid : Prop := rlogExactRow.holds Try.pinned (OpenSpec.ofChange rlogExactSpec)

/-- ITS FALSE NEIGHBOUR: 'it returns false'. Refute it at one input. -/
def rlogExactWrong : ChangeSpec := { name := "rlogExact", fn := fun _ => fun
  | [d1, d2, d3, d4, d5] => { results := [.lit (.bool false)], args := [d1, d2, d3, d4, d5] }
  | _ => none }
def RlogExactWrongFalsely : Prop := rlogExactRow.holds Try.pinned (OpenSpec.ofChange rlogExactWrong)

/-- 'quoratelaw.KvExact': WHATEVER THE INPUT: true; the input reads as it did. -/
def kvExactSpec : ChangeSpec := { name := "kvExact", fn := fun _ => fun
  | [d1, d2] => { results := [.lit (.bool true)], args := [d1, d2] }
  | _ => none }
def kvExactRow : OpenClaim := { program := "ytlknkhmhdmpdkaa", sum := "e4eb5f9917e0b8f81d0b5fec58835673830dc4b771e40cf261e203e8263e2abb", func := "quorate/quoratelaw.KvExact", spec := "kvExact", inPlace := ["slices.overlaps[quorate/api.Pair]"], unfollowed := true, recurses := true, apart := false }
def KvExactSaid : Prop := kvExactRow.holds Try.pinned (OpenSpec.ofChange kvExactSpec)

/-- ITS FALSE NEIGHBOUR: 'it returns false'. Refute it at one input. -/
def kvExactWrong : ChangeSpec := { name := "kvExact", fn := fun _ => fun
  | [d1, d2] => { results := [.lit (.bool false)], args := [d1, d2] }
  | _ => none }
def KvExactWrongFalsely : Prop := kvExactRow.holds Try.pinned (OpenSpec.ofChange kvExactWrong)

/-- 'quoratekeep.KvMap': WHATEVER THE INPUT: true; the input reads as it did. -/
def kvMapSpec : ChangeSpec := { name := "kvMap", fn := fun _ => fun
  | [d] => { results := [.lit (.bool true)], args := [d] }
  | _ => none }
def kvMapRow : OpenClaim := { program := "ytlknkhmhdmpdkaa", sum := "e4eb5f9917e0b8f81d0b5fec58835673830dc4b771e40cf261e203e8263e2abb", func := "quorate/quoratekeep.KvMap", spec := "kvMap", inPlace := ["slices.overlaps[quorate/api.Pair]"], unfollowed := true, recurses := true, apart := false }
def KvMapSaid : Prop := kvMapRow.holds Try.pinned (OpenSpec.ofChange kvMapSpec)

/-- ITS FALSE NEIGHBOUR: 'it returns false'. Refute it at one input. -/
def kvMapWrong : ChangeSpec := { name := "kvMap", fn := fun _ => fun
  | [d] => { results := [.lit (.bool false)], args := [d] }
  | _ => none }
def KvMapWrongFalsely : Prop := kvMapRow.holds Try.pinned (OpenSpec.ofChange kvMapWrong)

/-- 'quoratelaw.ClientExact': WHATEVER THE INPUT: true; the input reads as it did. -/
def clientExactSpec : ChangeSpec := { name := "clientExact", fn := fun _ => fun
  | [d1, d2, d3] => { results := [.lit (.bool true)], args := [d1, d2, d3] }
  | _ => none }
def clientExactRow : OpenClaim := { program := "ytlknkhmhdmpdkaa", sum := "e4eb5f9917e0b8f81d0b5fec58835673830dc4b771e40cf261e203e8263e2abb", func := "quorate/quoratelaw.ClientExact", spec := "clientExact", apart := false }
def ClientExactSaid : Prop := clientExactRow.holds Try.pinned (OpenSpec.ofChange clientExactSpec)

/-- ITS FALSE NEIGHBOUR: 'it returns false'. Refute it at one input. -/
def clientExactWrong : ChangeSpec := { name := "clientExact", fn := fun _ => fun
  | [d1, d2, d3] => { results := [.lit (.bool false)], args := [d1, d2, d3] }
  | _ => none }
def ClientExactWrongFalsely : Prop := clientExactRow.holds Try.pinned (OpenSpec.ofChange clientExactWrong)

/-- 'quoratekeep.ClientOnce': WHATEVER THE INPUT: true; the input reads as it did. -/
def clientOnceSpec : ChangeSpec := { name := "clientOnce", fn := fun _ => fun
  | [d1, d2] => { results := [.lit (.bool true)], args := [d1, d2] }
  | _ => none }
def clientOnceRow : OpenClaim := { program := "ytlknkhmhdmpdkaa", sum := "e4eb5f9917e0b8f81d0b5fec58835673830dc4b771e40cf261e203e8263e2abb", func := "quorate/quoratekeep.ClientOnce", spec := "clientOnce", apart := false }
def ClientOnceSaid : Prop := clientOnceRow.holds Try.pinned (OpenSpec.ofChange clientOnceSpec)

/-- ITS FALSE NEIGHBOUR: 'it returns false'. Refute it at one input. -/
def clientOnceWrong : ChangeSpec := { name := "clientOnce", fn := fun _ => fun
  | [d1, d2] => { results := [.lit (.bool false)], args := [d1, d2] }
  | _ => none }
def ClientOnceWrongFalsely : Prop := clientOnceRow.holds Try.pinned (OpenSpec.ofChange clientOnceWrong)

/-- 'quoratelaw.SessionExact': WHATEVER THE INPUT: true; the input reads as it did. -/
def sessionExactSpec : ChangeSpec := { name := "sessionExact", fn := fun _ => fun
  | [d1, d2, d3] => { results := [.lit (.bool true)], args := [d1, d2, d3] }
  | _ => none }
def sessionExactRow : OpenClaim := { program := "ytlknkhmhdmpdkaa", sum := "e4eb5f9917e0b8f81d0b5fec58835673830dc4b771e40cf261e203e8263e2abb", func := "quorate/quoratelaw.SessionExact", spec := "sessionExact", inPlace := ["slices.overlaps[quorate/api.Session]", "slices.overlaps[quorate/api.Pair]"], unfollowed := true, recurses := true, apart := false }
def SessionExactSaid : Prop := sessionExactRow.holds Try.pinned (OpenSpec.ofChange sessionExactSpec)

/-- ITS FALSE NEIGHBOUR: 'it returns false'. Refute it at one input. -/
def sessionExactWrong : ChangeSpec := { name := "sessionExact", fn := fun _ => fun
  | [d1, d2, d3] => { results := [.lit (.bool false)], args := [d1, d2, d3] }
  | _ => none }
def SessionExactWrongFalsely : Prop := sessionExactRow.holds Try.pinned (OpenSpec.ofChange sessionExactWrong)

/-- 'quoratekeep.SessionOnce': WHATEVER THE INPUT: true; the input reads as it did. -/
def sessionOnceSpec : ChangeSpec := { name := "sessionOnce", fn := fun _ => fun
  | [d1, d2] => { results := [.lit (.bool true)], args := [d1, d2] }
  | _ => none }
def sessionOnceRow : OpenClaim := { program := "ytlknkhmhdmpdkaa", sum := "e4eb5f9917e0b8f81d0b5fec58835673830dc4b771e40cf261e203e8263e2abb", func := "quorate/quoratekeep.SessionOnce", spec := "sessionOnce", inPlace := ["slices.overlaps[quorate/api.Session]", "slices.overlaps[quorate/api.Pair]"], unfollowed := true, recurses := true, apart := false }
def SessionOnceSaid : Prop := sessionOnceRow.holds Try.pinned (OpenSpec.ofChange sessionOnceSpec)

/-- ITS FALSE NEIGHBOUR: 'it returns false'. Refute it at one input. -/
def sessionOnceWrong : ChangeSpec := { name := "sessionOnce", fn := fun _ => fun
  | [d1, d2] => { results := [.lit (.bool false)], args := [d1, d2] }
  | _ => none }
def SessionOnceWrongFalsely : Prop := sessionOnceRow.holds Try.pinned (OpenSpec.ofChange sessionOnceWrong)

/-- 'quoratelaw.ConfigExact': WHATEVER THE INPUT: true; the input reads as it did. -/
def configExactSpec : ChangeSpec := { name := "configExact", fn := fun _ => fun
  | [d1, d2, d3] => { results := [.lit (.bool true)], args := [d1, d2, d3] }
  | _ => none }
def configExactRow : OpenClaim := { program := "ytlknkhmhdmpdkaa", sum := "e4eb5f9917e0b8f81d0b5fec58835673830dc4b771e40cf261e203e8263e2abb", func := "quorate/quoratelaw.ConfigExact", spec := "configExact", unfollowed := true, recurses := true, apart := false }
def ConfigExactSaid : Prop := configExactRow.holds Try.pinned (OpenSpec.ofChange configExactSpec)

/-- ITS FALSE NEIGHBOUR: 'it returns false'. Refute it at one input. -/
def configExactWrong : ChangeSpec := { name := "configExact", fn := fun _ => fun
  | [d1, d2, d3] => { results := [.lit (.bool false)], args := [d1, d2, d3] }
  | _ => none }
def ConfigExactWrongFalsely : Prop := configExactRow.holds Try.pinned (OpenSpec.ofChange configExactWrong)

/- THE SECOND FORM. 'bulk': how many values and letters a reading holds, each counted each time it is reached (what is shared counts as often as it is met; a slice's spare places count too). A statement '..UptoSaid' is the law's where the arguments, and the package variables that the reading takes, are together of bulk at most 1048576: NARROWER than '..Said'. Prove '..Said' where nothing that the law and all that it calls make is longer than what came in: it says more and counts as full. Else prove '..UptoSaid'. A law counts once. -/
mutual
def uptoBulk {H : Type} : DataW H → Nat
  | .lit (.string bytes) => bytes.length + 1
  | .lit _ => 1
  | .nil => 1
  | .ptr d => uptoBulk d + 1
  | .slice elems spare => uptoBulkAll elems + uptoBulkAll spare + 1
  | .agg parts => uptoBulkAll parts + 1
  | .iface _ d => uptoBulk d + 1
  | .map entries => uptoBulkEntries entries + 1
  | .held _ => 1
def uptoBulkAll {H : Type} : List (DataW H) → Nat
  | [] => 0
  | d :: r => uptoBulk d + uptoBulkAll r
def uptoBulkEntries {H : Type} : List (Lit × DataW H) → Nat
  | [] => 0
  | x :: r => uptoBulkEntry x + uptoBulkEntries r
def uptoBulkEntry {H : Type} : Lit × DataW H → Nat
  | (.string bytes, d) => bytes.length + uptoBulk d + 1
  | (_, d) => uptoBulk d + 1
 end
def uptoSmall : (H : Type) → List (DataW H) → Bool := fun _ ds => decide (uptoBulkAll ds ≤ 1048576)
def OpenSpec.upto (s : _root_.Go.ChangeSpec) : _root_.Go.OpenSpec := { _root_.Go.OpenSpec.ofChange s with cond := some uptoSmall }

/-- 'quoratelaw.WorldActs', WHERE WHAT IT READS IS OF BULK AT MOST 1048576: true; the input reads as it did. -/
def worldActsUptoRow : OpenClaim := { program := "ytlknkhmhdmpdkaa", sum := "e4eb5f9917e0b8f81d0b5fec58835673830dc4b771e40cf261e203e8263e2abb", func := "quorate/quoratelaw.WorldActs", spec := "worldActs", unfollowed := true, recurses := true, apart := false, narrowed := true }
def WorldActsUptoSaid : Prop := worldActsUptoRow.holds Try.pinned (OpenSpec.upto worldActsSpec)

/-- 'quoratelaw.DelegExact', WHERE WHAT IT READS IS OF BULK AT MOST 1048576: true; the input reads as it did. -/
def delegExactUptoRow : OpenClaim := { program := "ytlknkhmhdmpdkaa", sum := "e4eb5f9917e0b8f81d0b5fec58835673830dc4b771e40cf261e203e8263e2abb", func := "quorate/quoratelaw.DelegExact", spec := "delegExact", unfollowed := true, recurses := true, apart := false, narrowed := true }
def DelegExactUptoSaid : Prop := delegExactUptoRow.holds Try.pinned (OpenSpec.upto delegExactSpec)

/-- 'quoratekeep.DelegFunction', WHERE WHAT IT READS IS OF BULK AT MOST 1048576: true; the input reads as it did. -/
def delegFunctionUptoRow : OpenClaim := { program := "ytlknkhmhdmpdkaa", sum := "e4eb5f9917e0b8f81d0b5fec58835673830dc4b771e40cf261e203e8263e2abb", func := "quorate/quoratekeep.DelegFunction", spec := "delegFunction", unfollowed := true, recurses := true, apart := false, narrowed := true }
def DelegFunctionUptoSaid : Prop := delegFunctionUptoRow.holds Try.pinned (OpenSpec.upto delegFunctionSpec)

/-- 'quoratekeep.RlogMatch', WHERE WHAT IT READS IS OF BULK AT MOST 1048576: true; the input reads as it did. -/
def rlogMatchUptoRow : OpenClaim := { program := "ytlknkhmhdmpdkaa", sum := "e4eb5f9917e0b8f81d0b5fec58835673830dc4b771e40cf261e203e8263e2abb", func := "quorate/quoratekeep.RlogMatch", spec := "rlogMatch", apart := false, narrowed := true }
def RlogMatchUptoSaid : Prop := rlogMatchUptoRow.holds Try.pinned (OpenSpec.upto rlogMatchSpec)

/-- 'quoratelaw.RlogExact', WHERE WHAT IT READS IS OF BULK AT MOST 1048576: true; the input reads as it did. -/
def rlogExactUptoRow : OpenClaim := { program := "ytlknkhmhdmpdkaa", sum := "e4eb5f9917e0b8f81d0b5fec58835673830dc4b771e40cf261e203e8263e2abb", func := "quorate/quoratelaw.RlogExact", spec := "rlogExact", apart := false, narrowed := true }
def RlogExactUptoSaid : Prop := rlogExactUptoRow.holds Try.pinned (OpenSpec.upto rlogExactSpec)

/-- 'quoratelaw.KvExact', WHERE WHAT IT READS IS OF BULK AT MOST 1048576: true; the input reads as it did. -/
def kvExactUptoRow : OpenClaim := { program := "ytlknkhmhdmpdkaa", sum := "e4eb5f9917e0b8f81d0b5fec58835673830dc4b771e40cf261e203e8263e2abb", func := "quorate/quoratelaw.KvExact", spec := "kvExact", inPlace := ["slices.overlaps[quorate/api.Pair]"], unfollowed := true, recurses := true, apart := false, narrowed := true }
def KvExactUptoSaid : Prop := kvExactUptoRow.holds Try.pinned (OpenSpec.upto kvExactSpec)

/-- 'quoratekeep.KvMap', WHERE WHAT IT READS IS OF BULK AT MOST 1048576: true; the input reads as it did. -/
def kvMapUptoRow : OpenClaim := { program := "ytlknkhmhdmpdkaa", sum := "e4eb5f9917e0b8f81d0b5fec58835673830dc4b771e40cf261e203e8263e2abb", func := "quorate/quoratekeep.KvMap", spec := "kvMap", inPlace := ["slices.overlaps[quorate/api.Pair]"], unfollowed := true, recurses := true, apart := false, narrowed := true }
def KvMapUptoSaid : Prop := kvMapUptoRow.holds Try.pinned (OpenSpec.upto kvMapSpec)

/-- 'quoratelaw.ClientExact', WHERE WHAT IT READS IS OF BULK AT MOST 1048576: true; the input reads as it did. -/
def clientExactUptoRow : OpenClaim := { program := "ytlknkhmhdmpdkaa", sum := "e4eb5f9917e0b8f81d0b5fec58835673830dc4b771e40cf261e203e8263e2abb", func := "quorate/quoratelaw.ClientExact", spec := "clientExact", apart := false, narrowed := true }
def ClientExactUptoSaid : Prop := clientExactUptoRow.holds Try.pinned (OpenSpec.upto clientExactSpec)

/-- 'quoratekeep.ClientOnce', WHERE WHAT IT READS IS OF BULK AT MOST 1048576: true; the input reads as it did. -/
def clientOnceUptoRow : OpenClaim := { program := "ytlknkhmhdmpdkaa", sum := "e4eb5f9917e0b8f81d0b5fec58835673830dc4b771e40cf261e203e8263e2abb", func := "quorate/quoratekeep.ClientOnce", spec := "clientOnce", apart := false, narrowed := true }
def ClientOnceUptoSaid : Prop := clientOnceUptoRow.holds Try.pinned (OpenSpec.upto clientOnceSpec)

/-- 'quoratelaw.SessionExact', WHERE WHAT IT READS IS OF BULK AT MOST 1048576: true; the input reads as it did. -/
def sessionExactUptoRow : OpenClaim := { program := "ytlknkhmhdmpdkaa", sum := "e4eb5f9917e0b8f81d0b5fec58835673830dc4b771e40cf261e203e8263e2abb", func := "quorate/quoratelaw.SessionExact", spec := "sessionExact", inPlace := ["slices.overlaps[quorate/api.Session]", "slices.overlaps[quorate/api.Pair]"], unfollowed := true, recurses := true, apart := false, narrowed := true }
def SessionExactUptoSaid : Prop := sessionExactUptoRow.holds Try.pinned (OpenSpec.upto sessionExactSpec)

/-- 'quoratekeep.SessionOnce', WHERE WHAT IT READS IS OF BULK AT MOST 1048576: true; the input reads as it did. -/
def sessionOnceUptoRow : OpenClaim := { program := "ytlknkhmhdmpdkaa", sum := "e4eb5f9917e0b8f81d0b5fec58835673830dc4b771e40cf261e203e8263e2abb", func := "quorate/quoratekeep.SessionOnce", spec := "sessionOnce", inPlace := ["slices.overlaps[quorate/api.Session]", "slices.overlaps[quorate/api.Pair]"], unfollowed := true, recurses := true, apart := false, narrowed := true }
def SessionOnceUptoSaid : Prop := sessionOnceUptoRow.holds Try.pinned (OpenSpec.upto sessionOnceSpec)

/-- 'quoratelaw.ConfigExact', WHERE WHAT IT READS IS OF BULK AT MOST 1048576: true; the input reads as it did. -/
def configExactUptoRow : OpenClaim := { program := "ytlknkhmhdmpdkaa", sum := "e4eb5f9917e0b8f81d0b5fec58835673830dc4b771e40cf261e203e8263e2abb", func := "quorate/quoratelaw.ConfigExact", spec := "configExact", unfollowed := true, recurses := true, apart := false, narrowed := true }
def ConfigExactUptoSaid : Prop := configExactUptoRow.holds Try.pinned (OpenSpec.upto configExactSpec)

end Rows
end Go.Proofs.Ytlknkhmhdmpdkaa
