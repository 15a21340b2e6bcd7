/-
  DERIVED. GIVEN WITH THE SEED: THE CARDS: each row of YtnmlkoidmacinaaDoorRows.lean that lists a variable, with what it lists TIED to the program's text (the seventh form; the later family's looks); each row that meets fmt, with fmt's text TOLD by the authors' own Lean function (tested against real Go, not proved from fmt's source: count such statements apart). THE CARD IS WHAT COUNTS. Prove the row's statement (the work); the ties are given (YtnmlkoidmacinaaDoorTie.lean); close each card by the builder's one call (the guide's Derived/Test/ToyasCard.lean, 'card_holds'). Laid BY PROGRAM, IN A SANDBOX (cutbox-door.mjs). By AI agents, Wed Nov 11 2026. No macro, syntax, notation, axiom, sorry.
-/
import Derived.Test.YtnmlkoidmacinaaDoorRows
import GoSem.ClaimSeven
namespace Go.Proofs.YtnmlkoidmacinaaDoor
namespace Rows

/-- THE TIED CARD OF 'quoratelaw.TxnNumbers'. -/
def txnNumbersCard : Claim7 := { stood := { row := txnNumbersRow, standIns := [], harness := (true, "f50048b0dec1afdf1c22aef4686f5261323e87fb73b7795c9cdb5e6a785220f1"), looks := true }, kinds := [], alts := [], laidByText := true, laidKinds := [.data, .data, .data, .data, .sentinel, .sentinel, .pinned], laidTests := true, laidLooks := .later }
def TxnNumbersCardSaid : Prop := Claim7.holds Tryd.pinned (.plain (OpenSpec.ofChange txnNumbersSpec)) txnNumbersCard

/-- THE TIED CARD OF 'quoratelaw.TxnExact'. -/
def txnExactCard : Claim7 := { stood := { row := txnExactRow, standIns := [], harness := (true, "f50048b0dec1afdf1c22aef4686f5261323e87fb73b7795c9cdb5e6a785220f1"), looks := true }, kinds := [], alts := [], laidByText := true, laidKinds := [.data, .data, .data, .data, .sentinel, .sentinel, .pinned], laidTests := true, laidLooks := .later }
def TxnExactCardSaid : Prop := Claim7.holds Tryd.pinned (.plain (OpenSpec.ofChange txnExactSpec)) txnExactCard

/-- THE SECOND FORM's CARD OF 'quoratelaw.TxnNumbers'. -/
def txnNumbersUptoCard : Claim7 := { stood := { row := txnNumbersUptoRow, standIns := [], harness := (true, "f50048b0dec1afdf1c22aef4686f5261323e87fb73b7795c9cdb5e6a785220f1"), looks := true }, kinds := [], alts := [], laidByText := true, laidKinds := [.data, .data, .data, .data, .sentinel, .sentinel, .pinned], laidTests := true, laidLooks := .later }
def TxnNumbersUptoCardSaid : Prop := Claim7.holds Tryd.pinned (.plain (OpenSpec.upto txnNumbersSpec)) txnNumbersUptoCard

/-- THE SECOND FORM's CARD OF 'quoratelaw.TxnExact'. -/
def txnExactUptoCard : Claim7 := { stood := { row := txnExactUptoRow, standIns := [], harness := (true, "f50048b0dec1afdf1c22aef4686f5261323e87fb73b7795c9cdb5e6a785220f1"), looks := true }, kinds := [], alts := [], laidByText := true, laidKinds := [.data, .data, .data, .data, .sentinel, .sentinel, .pinned], laidTests := true, laidLooks := .later }
def TxnExactUptoCardSaid : Prop := Claim7.holds Tryd.pinned (.plain (OpenSpec.upto txnExactSpec)) txnExactUptoCard
end Rows
end Go.Proofs.YtnmlkoidmacinaaDoor
