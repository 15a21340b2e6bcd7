/-
  Blocks that a law keeps.
-/
import Derived.Test.YtbonmeogmjfkeaaCx
namespace Go.Proofs.Ytbonmeogmjfkeaa.Mm
open Go.RowKit
set_option linter.unusedVariables false

/-- old memory is as it was, and these blocks hold this -/
def Keep (w W : World) (F : List (Nat × Obj)) : Prop := Below w.heap.size w W ∧ ∀ p ∈ F, W.heap[p.1]? = some p.2
theorem Keep.refl (w : World) : Keep w w [] := ⟨Below.refl _ _, fun _ h => by cases h⟩
theorem Keep.step {w W W' : World} {F : List (Nat × Obj)} (h : Keep w W F) (hb : Below W.heap.size W W') : Keep w W' F :=
  ⟨h.1.trans (hb.mono h.1.size), fun p hp => (hb.block _ (lt_of_block (h.2 p hp))).trans (h.2 p hp)⟩
theorem Keep.laid {w W W' : World} {F : List (Nat × Obj)} {o : Obj} (h : Keep w W F) (e : W.alloc o = W') : Keep w W' F := by
  subst e; exact h.step ((Below.refl _ _).alloc (Nat.le_refl _) _)
theorem Keep.lay {w W W' : World} {F : List (Nat × Obj)} {cs : Array Value} {T : TypeId} {B : Nat} (h : Keep w W F) (e : W.alloc (.cells cs T) = W') (hB : W.heap.size = B) : Keep w W' ((B, .cells cs T (0, 0)) :: F) := by
  refine ⟨(h.laid e).1, fun p hp => ?_⟩
  cases hp with
  | head => rw [← e, ← hB]; exact hp_at _ _ rfl
  | tail _ hp => exact (h.laid e).2 p hp
theorem Keep.drew {w W : World} {F : List (Nat × Obj)} (h : Keep w W F) : Keep w W.drew F := ⟨h.1.drew, fun p hp => by rw [hp_drew]; exact h.2 p hp⟩
theorem Keep.at0 {w W : World} {F : List (Nat × Obj)} {B : Nat} {o : Obj} (h : Keep w W ((B, o) :: F)) : W.heap[B]? = some o := h.2 (B, o) (List.Mem.head _)
theorem Keep.tail {w W : World} {F : List (Nat × Obj)} {p : Nat × Obj} (h : Keep w W (p :: F)) : Keep w W F := ⟨h.1, fun q hq => h.2 q (List.Mem.tail _ hq)⟩
end Go.Proofs.Ytbonmeogmjfkeaa.Mm
