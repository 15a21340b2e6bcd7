/-
  Sorting an own row of integers, and leaving out what comes twice: the library's contracts in the words of own rows.
-/
import Derived.Test.YtgdmcbjlfnjhjaaShelf
import Derived.Test.YtgdmcbjlfnjhjaaUn
import Derived.Test.YtgdmcbjlfnjhjaaRep
import Derived.Sort.OwnSortedInts
namespace Go.Proofs.Ytgdmcbjlfnjhjaa
open Go.RowKit Wm Mm Go.Sort
set_option linter.unusedVariables false
set_option linter.unusedSimpArgs false

abbrev OwnI (S : Nat) (w : World) (v : Value) (l : List Int) : Prop := w.ownsRow S 3 1 v l.length (l.map (.int .i64))
theorem grown_same (w : World) (r : Option Nat) : w.grownBy w r := ⟨rfl, rfl, rfl, Nat.le_refl _, fun _ _ _ => rfl⟩
theorem sort_own {S : Nat} {v : Value} {l : List Int} {w : World} (h : OwnI S w v l) (hl : l.length < 4611686018427387904) (hS : S ≤ w.heap.size) :
    Calls Try.prog 87 #[v] w fun e w' => e = .returned (.tuple #[]) ∧ OwnI S w' v (sortP l) ∧ Below S w w' ∧ w.grownBy w' v.ownBlock := by
  rcases h.2 with ⟨rfl, h0⟩ | ⟨g, cap, cur, rfl, hb, hh, h1, h2, h3, h4⟩
  · have : l = [] := List.length_eq_zero_iff.1 h0
    subst this
    refine (Try.slices_Sort_int_none none 0 w).mono ?_
    rintro e w' ⟨rfl, rfl⟩
    exact ⟨rfl, by rw [show sortP [] = [] from by simp [sortP]]; exact h, Below.refl _ _, grown_same _ _⟩
  · refine (Try.slices_Sort_int g 0 cap l w (holds_of_blockI hh (by simpa using h4)) (Array.getElem?_eq_some_iff.1 hh).1 hl).mono ?_
    rintro e w' ⟨rfl, n, os, rfl⟩
    have h5 := ownsRow_sortedI (n := n) (os := os) (ts := sortP l) (sortP_len l) hb hh h1 h2 h3
    have h6 : w.grownBy _ (some g) := grownBy_sortedI (w := w) (g := g) (n := n) (os := os) (sortP l).toArray
    refine ⟨rfl, ?_, grown_below h6 hb hS, h6⟩
    show World.ownsRow _ _ _ _ _ _ _
    rw [sortP_len]
    exact h5
theorem compact_own {S : Nat} {v : Value} {l : List Int} {w : World} (h : OwnI S w v l) (hl : l.length ≤ 9223372036854775807) (hS : S ≤ w.heap.size) :
    Calls Try.prog 88 #[v] w fun e w' => ∃ v', e = .returned v' ∧ OwnI S w' v' (Lib.compact l) ∧ Below S w w' ∧ w.grownBy w' v.ownBlock ∧ v'.ownBlock = v.ownBlock := by
  rcases h.2 with ⟨rfl, h0⟩ | ⟨g, cap, cur, rfl, hb, hh, h1, h2, h3, h4⟩
  · have : l = [] := List.length_eq_zero_iff.1 h0
    subst this
    refine (Try.slices_Compact_int_empty none 0 w).mono ?_
    rintro e w' ⟨rfl, rfl⟩
    exact ⟨_, rfl, by rw [show Lib.compact ([] : List Int) = [] from rfl]; exact h, Below.refl _ _, grown_same _ _, rfl⟩
  · refine (Try.slices_Compact_int g 0 cap l w (holds_of_blockI hh (by simpa using h4)) hl h1).mono ?_
    rintro e w' ⟨rfl, n, rfl⟩
    have hlen : (Lib.compact l).length ≤ l.length := by
      unfold Lib.compact Lib.compactUpTo
      rw [List.length_map]
      exact Nat.le_trans (List.length_filter_le _ _) (by simp)
    have h5 := ownsRow_sortedI (n := n) (os := #[]) (ss := l) (ts := Lib.compact l ++ List.replicate (l.length - (Lib.compact l).length) 0) (by simp; omega) hb hh h1 h2 h3
    have h6 : w.grownBy _ (some g) := grownBy_sortedI (w := w) (g := g) (n := n) (os := #[]) (Lib.compact l ++ List.replicate (l.length - (Lib.compact l).length) 0).toArray
    rw [grow_empty] at h5 h6
    refine ⟨_, rfl, ?_, grown_below h6 hb hS, h6, rfl⟩
    have h7 := own_take h5 hlen
    show World.ownsRow _ _ _ _ _ _ _
    rw [Nat.mul_one, List.map_append, List.take_left' (by simp)] at h7
    exact h7
end Go.Proofs.Ytgdmcbjlfnjhjaa
