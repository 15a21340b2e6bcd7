/-
  The writer: its small methods, walked: each puts its bytes behind those that are there. The writer: its small methods, with all that they keep: every other block that is no row of bytes. The plain writers of the document's answer: a number, a text.
-/
import Derived.Test.YtgdmcbjlfnjhjaaWm
import Derived.WalkSpells
import Derived.WalkLawsBesides
import Derived.Lib.Hide
import Derived.Deep.AppendSrc
namespace Go.Proofs.Ytgdmcbjlfnjhjaa
open Go.RowKit Wm Mm
set_option linter.unusedVariables false

theorem info_u8 : (Try.prog.info? 5).map (fun i => (i.zero, i.size, i.bytes)) = some (some (.int .u8 0), 1, 1) := by kernel_rfl

theorem src_str {P : Program} {w : World} {tx : TypeId} (hk : P.underlying tx = some .string) (s : List UInt8) : Src P 1 tx (str s) s.length (s.map bval) w := by
  have h := Src.ofString (w := w) hk ⟨s.toArray⟩
  have e : byteCells ⟨s.toArray⟩ = s.map bval := by simp [byteCells]
  rw [e] at h
  exact h

end Go.Proofs.Ytgdmcbjlfnjhjaa

namespace Go.Proofs.Ytgdmcbjlfnjhjaa
open Go.RowKit Wm Mm
set_option linter.unusedVariables false

/-- all blocks but b that hold no bytes are as they were -/
def Keeps (b : Nat) (w w' : World) : Prop := ∀ (k : Nat) (T : TypeId) (os : Array Value), k ≠ b → T ≠ 5 → w.heap[k]? = some (.cells os T (0, 0)) → w'.heap[k]? = some (.cells os T (0, 0))
def BK (b : Nat) (w w' : World) : Prop := Below b w w' ∧ Keeps b w w'
theorem BK.refl (b : Nat) (w : World) : BK b w w := ⟨Below.refl _ _, fun _ _ _ _ _ h => h⟩
theorem BK.trans {b : Nat} {w w1 w2 : World} (h : BK b w w1) (h2 : BK b w1 w2) : BK b w w2 := ⟨h.1.trans h2.1, fun k T os hk hT hw => h2.2 k T os hk hT (h.2 k T os hk hT hw)⟩
theorem BK.alloc {b : Nat} {w : World} (o : Obj) (hb : b ≤ w.heap.size) : BK b w (w.alloc o) :=
  ⟨(Below.refl _ _).alloc hb _, fun k T os hk hT hw => (hp_past _ _ (by have := lt_of_block hw; omega)).trans hw⟩

end Go.Proofs.Ytgdmcbjlfnjhjaa

namespace Go.Proofs.Ytgdmcbjlfnjhjaa
open Go.RowKit Wm Mm
set_option linter.unusedVariables false

theorem toStr1 (x : Int) (w : World) : (convert 83 9 (.slice (some ⟨w.heap.size, 0, none⟩) 1 1)).run Try.prog (w.alloc (.cells #[.int .u8 x] 5)) =
    .ok (str [UInt8.ofNat x.toNat]) (w.alloc (.cells #[.int .u8 x] 5)) :=
  run_toStr_new w _ _ _ 1 1 [x] rfl Try.underlying83 Try.underlying5 Try.underlying9

end Go.Proofs.Ytgdmcbjlfnjhjaa
