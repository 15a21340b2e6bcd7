/-
  Pieces of a function's code, found by a test's slot or a region's number: so that each piece may be walked by itself. No program in sight.
-/
import Derived.Test.YtkcllpbbjlbfaaaMm
namespace Go.Proofs.Ytkcllpbbjlbfaaa.Mm
open Go.RowKit
set_option linter.unusedVariables false

def isTmp (n : Nat) : Operand → Bool
  | .tmp k => k == n
  | _ => false
/-- the 'if' on a slot -/
def condAt (n : Nat) : Code → Option Code
  | .cond c a b => if isTmp n c then some (.cond c a b) else match condAt n a with
    | some c => some c
    | none => condAt n b
  | .seq a b => match condAt n a with
    | some c => some c
    | none => condAt n b
  | .block _ c => condAt n c
  | .loop c => condAt n c
  | .scope c => condAt n c
  | _ => none
/-- the region of a number -/
def regionAt (n : Nat) : Code → Option Code
  | .region k o d => if k == n then some (.region k o d) else none
  | .cond c a b => match regionAt n a with
    | some c => some c
    | none => regionAt n b
  | .seq a b => match regionAt n a with
    | some c => some c
    | none => regionAt n b
  | .block _ c => regionAt n c
  | .loop c => regionAt n c
  | .scope c => regionAt n c
  | _ => none
/-- the block of a number -/
def blockAt (n : Nat) : Code → Option Code
  | .block k c => if k == n then some (.block k c) else blockAt n c
  | .cond c a b => match blockAt n a with
    | some c => some c
    | none => blockAt n b
  | .seq a b => match blockAt n a with
    | some c => some c
    | none => blockAt n b
  | .loop c => blockAt n c
  | .scope c => blockAt n c
  | _ => none
/-- does a code begin with the region of a number? -/
def isRegion (n : Nat) : Code → Bool
  | .region k _ _ => k == n
  | .seq a _ => isRegion n a
  | .block _ c => isRegion n c
  | .scope c => isRegion n c
  | .loop c => isRegion n c
  | _ => false
/-- what stands from the region of a number on, to the end of its sequence -/
def seqAt (n : Nat) : Code → Option Code
  | .seq a b => if isRegion n a then some (.seq a b) else match seqAt n a with
    | some c => some c
    | none => seqAt n b
  | .cond c a b => match seqAt n a with
    | some c => some c
    | none => seqAt n b
  | .block _ c => seqAt n c
  | .loop c => seqAt n c
  | .scope c => seqAt n c
  | _ => none
/-- the loops of a code, in order -/
def loopsOf : Code → List Code
  | .loop c => .loop c :: loopsOf c
  | .cond _ a b => loopsOf a ++ loopsOf b
  | .seq a b => loopsOf a ++ loopsOf b
  | .block _ c => loopsOf c
  | .scope c => loopsOf c
  | _ => []
theorem piece_seq {P : Program} {c : Code} {K : Act → World → Prop} {Q : Exit → Act → World → Prop} {a : Act} {w : World} (h : c.wp P (Exit.then K fun _ _ _ => False) a w) (hK : ∀ a w, K a w → Q .normal a w) : c.wp P Q a w := by
  refine wp_mono h ?_
  intro e a' w' hq
  cases e with
  | normal => exact hK _ _ hq
  | exit id => exact hq.elim
  | goto l => exact hq.elim
  | ret => exact hq.elim
  | panic ch => exact hq.elim
  | outgrown => exact hq.elim
/-- a piece that only ends by going on -/
theorem piece_any {P : Program} {c : Code} {K : Act → World → Prop} {Q' : Exit → Act → World → Prop} {a : Act} {w : World} (h : c.wp P (Exit.then K fun _ _ _ => False) a w) : c.wp P (Exit.then K Q') a w := by
  refine wp_mono h ?_
  intro e a' w' hq
  cases e with
  | normal => exact hq
  | exit id => exact hq.elim
  | goto l => exact hq.elim
  | ret => exact hq.elim
  | panic ch => exact hq.elim
  | outgrown => exact hq.elim
end Go.Proofs.Ytkcllpbbjlbfaaa.Mm
