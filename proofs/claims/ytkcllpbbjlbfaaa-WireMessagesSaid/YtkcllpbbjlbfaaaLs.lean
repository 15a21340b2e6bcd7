/-
  An argument that is a slice of texts.
-/
import Derived.Test.YtkcllpbbjlbfaaaLift
import Derived.Test.YtkcllpbbjlbfaaaWm
import Derived.SliceStrings
namespace Go.Proofs.Ytkcllpbbjlbfaaa
open Go.ChangeShapes Go.WideShapes Go.ChangeAt Go.RowKit Wm Mm
set_option linter.unusedVariables false

/-- v is a slice of these texts -/
def Strs (w : World) (v : Value) (l : List (List UInt8)) : Prop :=
  ∃ ao cap, v = .slice ao l.length cap ∧ (l ≠ [] → ∃ b off, ao = some ⟨b, off, none⟩ ∧ ∀ j x, l[j]? = some x → w.cell? ⟨b, off + j, none⟩ = some (str x)) ∧ l.length ≤ maxLen
theorem Strs.mono {w w' : World} {v : Value} {l : List (List UInt8)} (h : Strs w v l) (hb : Go.RowKit.Below w.heap.size w w') : Strs w' v l := by
  obtain ⟨ao, cap, rfl, hc, hm⟩ := h
  refine ⟨ao, cap, rfl, fun hne => ?_, hm⟩
  obtain ⟨b, off, rfl, hj⟩ := hc hne
  refine ⟨b, off, rfl, fun j x hx => ?_⟩
  have h1 := hj j x hx
  rw [hb.cell (p := ⟨b, off + j, none⟩) (World.block_lt_of_cell? _ _ h1)]
  exact h1

theorem open_Strs {H : Type} {P : Program} {enc : TypeId × Value → H} {W : World} {base b0 : Nat} {sp : Nat → Bool} {hd : Bool} {r : Reach} {t e : TypeId} {v : Value} {d : DataW H} {ps : List MemPlace} (ht : P.underlying t = some (.slice e)) (he : P.underlying e = some .string) (hc : P.cellsOf e = 1)
    (hval : Value.okWide P W r b0 t v) (h : DataW.Trod enc P W base sp hd t v d ps) : ∃ L : List (List UInt8), Strs W v L ∧ (L = [] ∨ ∃ el sp, d = .slice el sp ∧ el.length = L.length) := by
  obtain ⟨a0, len, cap, rfl⟩ := okWide_slice ht hval
  obtain ⟨fuel, hf⟩ := h
  rcases open_strings ht he hc hf with ⟨hcs, _⟩ | ⟨a, len', cap', zs, hcs, _, hl, hm, hz, hx, hcell, hwz⟩
  · simp [Value.cells] at hcs
    obtain ⟨rfl, rfl, rfl⟩ := hcs
    exact ⟨[], ⟨none, 0, rfl, fun h => absurd rfl h, Nat.zero_le _⟩, Or.inl rfl⟩
  · simp [Value.cells] at hcs
    obtain ⟨rfl, rfl, rfl⟩ := hcs
    have hle : len ≤ zs.length := by rw [hz]; split <;> omega
    simp only [Prod.mk.injEq] at hx
    refine ⟨(zs.take len).map fun s => s.data.toList, ⟨some a, cap, by simp [Nat.min_eq_left hle], fun hne => ?_, by simp; unfold maxLen at *; omega⟩, Or.inr ⟨_, _, hx.1, by simp [strs]⟩⟩
    have h0 : 0 < len := by
      rcases Nat.eq_zero_or_pos len with h0 | h0
      · subst h0; simp at hne
      · exact h0
    obtain ⟨b, off, spot⟩ := a
    have hspot : spot = none := by simpa [Addr.add] using World.cell?_spot (hcell 0 (by omega))
    subst hspot
    refine ⟨b, off, rfl, fun j x hj => ?_⟩
    rw [List.getElem?_map] at hj
    obtain ⟨y, hy, rfl⟩ := Option.map_eq_some_iff.1 hj
    have hj2 : j < (zs.take len).length := (List.getElem?_eq_some_iff.1 hy).1
    simp at hj2
    have h1 := hcell j (by omega)
    have hadd : (⟨b, off, none⟩ : Addr).add j = ⟨b, off + j, none⟩ := by unfold Addr.add; split <;> simp_all
    rw [hadd] at h1
    rw [h1]
    have hx : zs[j]? = some y := by rw [List.getElem?_take] at hy; rw [if_pos (by omega)] at hy; exact hy
    rw [List.getD_eq_getElem?_getD, hx]
    cases y; rfl
end Go.Proofs.Ytkcllpbbjlbfaaa
