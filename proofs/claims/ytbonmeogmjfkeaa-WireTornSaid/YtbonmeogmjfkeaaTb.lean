/-
  A row of bytes that '[]byte(s)' laid.
-/
import Derived.Test.YtbonmeogmjfkeaaMm
import Derived.Test.YtbonmeogmjfkeaaWm
import Derived.Laws.IdiomStrings
namespace Go.Proofs.Ytbonmeogmjfkeaa
open Go.RowKit Wm Mm
set_option linter.unusedVariables false

/-- block T holds the bytes X, and room behind them -/
def TB (w : World) (T : Nat) (X : List UInt8) : Prop :=
  ∃ C : Array Value, w.heap[T]? = some (.cells C 5 (C.size, C.size + 1)) ∧ X.length ≤ C.size ∧ ∀ (j : Nat) (x : UInt8), X[j]? = some x → C[j]? = some (bval x)
theorem TB.cell {w : World} {T : Nat} {X : List UInt8} (h : TB w T X) {j : Nat} {x : UInt8} (hx : X[j]? = some x) : w.cell? ⟨T, j, none⟩ = some (bval x) := by
  obtain ⟨C, h1, h2, h3⟩ := h
  have := h3 j x hx
  simp [World.cell?, h1, this]
theorem TB.free {w : World} {T : Nat} {X : List UInt8} (h : TB w T X) {j : Nat} (hj : j < X.length) : w.frozen? ⟨T, j, none⟩ = false := by
  obtain ⟨C, h1, h2, h3⟩ := h
  simp [World.frozen?, h1]
  omega
theorem TB.set {w : World} {T : Nat} {X : List UInt8} (h : TB w T X) {j : Nat} (hj : j < X.length) (y : UInt8) : TB (w.setCell ⟨T, j, none⟩ (bval y)) T (X.set j y) := by
  obtain ⟨C, h1, h2, h3⟩ := h
  refine ⟨C.set! j (bval y), ?_, by simpa using h2, ?_⟩
  · rw [heap_setCell]
    simp [h1, storeIn]
  · intro k x hk
    rw [List.getElem?_set] at hk
    by_cases e : j = k
    · subst e
      rw [if_pos rfl, if_pos hj] at hk
      have : j < C.size := by omega
      cases hk
      simp [this]
    · rw [if_neg e] at hk
      have := h3 k x hk
      simp [e, this]
theorem TB.new (w : World) (s : List UInt8) : TB (w.drew.alloc (.cells (bytesRow ⟨s.toArray⟩ (grownCap w s.length 0 5)) 5 ((bytesRow ⟨s.toArray⟩ (grownCap w s.length 0 5)).size, (bytesRow ⟨s.toArray⟩ (grownCap w s.length 0 5)).size + 1))) w.heap.size s := by
  refine ⟨_, hp_at _ _ rfl, ?_, ?_⟩
  · simp [bytesRow]
  · intro j x hj
    have hl : j < s.length := by
      by_cases h : j < s.length
      · exact h
      · rw [List.getElem?_eq_none (by omega)] at hj; cases hj
    rw [bytesRow, Array.getElem?_append_left (by simpa using hl)]
    simp [hj, bval]
end Go.Proofs.Ytbonmeogmjfkeaa
