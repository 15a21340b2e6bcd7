/-
  Lists of numbers, sorted, each once: in plain Lean.
-/
import Derived.Test.YtgdmcbjlfnjhjaaCfp
import Derived.Lib.SlicesCompact
namespace Go.Proofs.Ytgdmcbjlfnjhjaa
open Go.RowKit Wm Mm
set_option linter.unusedVariables false
set_option linter.unusedSimpArgs false

theorem compactUpTo_sorted {l : List Int} (hs : l.Pairwise (· ≤ ·)) : ∀ m, m ≤ l.length → Strict (Lib.compactUpTo l.toArray m) ∧ ∀ x, x ∈ Lib.compactUpTo l.toArray m ↔ x ∈ l.take m := by
  intro m
  induction m with
  | zero => intro _; exact ⟨by simp [Lib.compactUpTo], fun x => by simp [Lib.compactUpTo]⟩
  | succ m ih =>
    intro hm
    obtain ⟨h1, h2⟩ := ih (by omega)
    have hml : m < l.length := by omega
    have e1 : l.toArray[m]! = l[m] := by rw [getElem!_pos _ m (by simpa using hml)]; simp
    have e2 : l.take (m + 1) = l.take m ++ [l[m]] := by rw [List.take_add_one, List.getElem?_eq_getElem hml]; rfl
    rw [Lib.compactUpTo_succ, e1]
    by_cases hk : Lib.keeps l.toArray m = true
    · rw [if_pos hk]
      refine ⟨List.pairwise_append.2 ⟨h1, List.pairwise_singleton _ _, fun x hx y hy => ?_⟩, fun x => by rw [e2, List.mem_append, List.mem_append, h2]⟩
      have hy : y = l[m] := by simpa using hy
      subst hy
      obtain ⟨i, hi, rfl⟩ := List.getElem_of_mem ((h2 x).1 hx)
      rw [List.length_take] at hi
      rw [List.getElem_take]
      have hm0 : 0 < m := by omega
      have e3 : l.toArray[m - 1]! = l[m - 1] := by rw [getElem!_pos _ (m - 1) (by simp; omega)]; simp
      simp only [Lib.keeps, decide_eq_true_eq, e1, e3] at hk
      have hne : l[m] ≠ l[m - 1] := hk.resolve_left (by omega)
      have g1 : l[m - 1] ≤ l[m] := List.pairwise_iff_getElem.1 hs (m - 1) m (by omega) hml (by omega)
      have g2 : l[i] ≤ l[m - 1] := by
        rcases Nat.lt_or_ge i (m - 1) with h | h
        · exact List.pairwise_iff_getElem.1 hs i (m - 1) (by omega) (by omega) h
        · have : i = m - 1 := by omega
          subst this; exact Int.le_refl _
      omega
    · rw [if_neg hk]
      refine ⟨by simpa using h1, fun x => ?_⟩
      rw [List.append_nil, h2, e2, List.mem_append]
      refine ⟨Or.inl, fun h => h.elim id (fun hx => ?_)⟩
      have hx : x = l[m] := by simpa using hx
      subst hx
      simp only [Lib.keeps, decide_eq_true_eq, not_or, Classical.not_not] at hk
      have e3 : l.toArray[m - 1]! = l[m - 1] := by rw [getElem!_pos _ (m - 1) (by simp; omega)]; simp
      rw [e1, e3] at hk
      rw [hk.2]
      exact List.mem_take_iff_getElem.2 ⟨m - 1, by omega, rfl⟩
def sortP (l : List Int) : List Int := l.mergeSort fun x y => decide (x ≤ y)
theorem sortP_len (l : List Int) : (sortP l).length = l.length := by simp [sortP]
theorem sortP_sorted (l : List Int) : (sortP l).Pairwise (· ≤ ·) := by
  have := List.pairwise_mergeSort (le := fun x y : Int => decide (x ≤ y)) (by intro a b c; simp; omega) (by intro a b; simp; omega) l
  simpa [sortP] using this
theorem sortP_mem {l : List Int} {x : Int} : x ∈ sortP l ↔ x ∈ l := by simp [sortP]
/-- the union of lists, rising, each number once -/
def unionP (l : List Int) : List Int := Lib.compact (sortP l)
theorem unionP_strict (l : List Int) : Strict (unionP l) := (compactUpTo_sorted (sortP_sorted l) _ (Nat.le_refl _)).1
theorem unionP_mem {l : List Int} {x : Int} : x ∈ unionP l ↔ x ∈ l := by
  rw [unionP, Lib.compact, (compactUpTo_sorted (sortP_sorted l) _ (Nat.le_refl _)).2, List.take_length, sortP_mem]
theorem unionP_len (l : List Int) : (unionP l).length ≤ l.length := by
  have : (Lib.compact (sortP l)).length ≤ (sortP l).length := by
    unfold Lib.compact Lib.compactUpTo
    rw [List.length_map]
    refine Nat.le_trans (List.length_filter_le _ _) (by simp)
  rw [sortP_len] at this
  exact this
theorem unionP_ins {l : List Int} (n : Int) (h : Strict l) : unionP (l ++ [n]) = insP n l :=
  strict_ext (unionP_strict _) (strict_insP h) (fun x => by rw [unionP_mem, mem_insP, List.mem_append, List.mem_singleton]; exact Or.comm)
end Go.Proofs.Ytgdmcbjlfnjhjaa
