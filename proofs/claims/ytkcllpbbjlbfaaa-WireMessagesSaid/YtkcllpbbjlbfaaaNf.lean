/-
  Lists of integers in memory that was laid later than a point; configurations of such.
-/
import Derived.Test.YtkcllpbbjlbfaaaCh
namespace Go.Proofs.Ytkcllpbbjlbfaaa
open Go.RowKit Wm Mm
set_option linter.unusedVariables false

/-- v is a slice of these integers, in a block from S on -/
def IntsF (S : Nat) (w : World) (v : Value) (l : List Int) : Prop :=
  ∃ ao cap, v = .slice ao l.length cap ∧ (l ≠ [] → ∃ b off, ao = some ⟨b, off, none⟩ ∧ S ≤ b ∧ ∀ j x, l[j]? = some x → w.cell? ⟨b, off + j, none⟩ = some (.int .i64 x)) ∧ l.length ≤ maxLen
theorem IntsF.ints {S : Nat} {w : World} {v : Value} {l : List Int} (h : IntsF S w v l) : Ints w v l := by
  obtain ⟨ao, cap, rfl, hc, hm⟩ := h
  exact ⟨ao, cap, rfl, fun hne => by obtain ⟨b, off, h1, _, h2⟩ := hc hne; exact ⟨b, off, h1, h2⟩, hm⟩
theorem IntsF.base {S S' : Nat} {w : World} {v : Value} {l : List Int} (h : IntsF S w v l) (hs : S' ≤ S) : IntsF S' w v l := by
  obtain ⟨ao, cap, rfl, hc, hm⟩ := h
  exact ⟨ao, cap, rfl, fun hne => by obtain ⟨b, off, h1, h2, h3⟩ := hc hne; exact ⟨b, off, h1, Nat.le_trans hs h2, h3⟩, hm⟩
theorem IntsF.up {S S' : Nat} {w w' : World} {v : Value} {l : List Int} (h : IntsF S w v l) (hu : Up S' w w') (hs : S' ≤ S) : IntsF S w' v l := by
  obtain ⟨ao, cap, rfl, hc, hm⟩ := h
  refine ⟨ao, cap, rfl, fun hne => ?_, hm⟩
  obtain ⟨b, off, rfl, h2, h3⟩ := hc hne
  refine ⟨b, off, rfl, h2, fun j x hx => ?_⟩
  have h4 := h3 j x hx
  have h5 := hu b (by omega) (World.block_lt_of_cell? _ _ h4)
  rw [← h4]
  simp only [World.cell?, h5]
theorem IntsF.of_own {w : World} {base : Nat} {e : TypeId} {v : Value} {n : Nat} {l : List Int} (h : w.ownsRow base e 1 v n (l.map (Value.int .i64))) : IntsF base w v l := by
  have hlen := h.1
  simp at hlen
  subst hlen
  rcases h.2 with ⟨rfl, h0⟩ | ⟨g, cap, cur, rfl, hb, hg, hn, hc, hs, ht⟩
  · refine ⟨none, 0, by rw [h0], fun hne => (hne (List.eq_nil_of_length_eq_zero h0)).elim, by rw [h0]; exact Nat.zero_le _⟩
  · refine ⟨_, _, rfl, fun _ => ⟨g, 0, rfl, hb, fun j x hj => ?_⟩, Nat.le_trans hn hc⟩
    have := h.cells (g := g) rfl j (.int .i64 x) (by simp [hj])
    have hadd : (⟨g, 0, none⟩ : Addr).add j = ⟨g, 0 + j, none⟩ := by unfold Addr.add; split <;> simp_all
    rwa [hadd] at this
theorem IntsF.cut {S : Nat} {w : World} {a : Option Addr} {n c : Nat} {l : List Int} {y : Int} (h : IntsF S w (.slice a n c) (l ++ [y])) : IntsF S w (.slice a l.length c) l := by
  obtain ⟨ao, cap, he, hc, hm⟩ := h
  injection he with e1 e2 e3
  subst e1; subst e3
  refine ⟨_, _, rfl, fun hne => ?_, by simp at hm; omega⟩
  obtain ⟨b, off, h1, h0, h2⟩ := hc (by simp)
  exact ⟨b, off, h1, h0, fun j x hj => h2 j x (by
    have hlt : j < l.length := by
      by_cases h : j < l.length
      · exact h
      · rw [List.getElem?_eq_none (by omega)] at hj; cases hj
    rw [List.getElem?_append_left hlt]; exact hj)⟩
theorem IntsF.len {S : Nat} {w : World} {v : Value} {l : List Int} (h : IntsF S w v l) : ∃ ao cap, v = .slice ao l.length cap := by
  obtain ⟨ao, cap, rfl, _, hm⟩ := h
  exact ⟨ao, cap, rfl⟩
theorem IntsF.nil (S : Nat) (w : World) : IntsF S w (.slice none 0 0) [] := ⟨none, 0, rfl, fun h => absurd rfl h, Nat.zero_le _⟩

/-- three such slices are this configuration -/
structure Config3F (S : Nat) (w : World) (a b d : Value) (c : Conf) : Prop where
  v : IntsF S w a c.v
  n : IntsF S w b c.n
  l : IntsF S w d c.l
theorem Config3F.conf {S : Nat} {w : World} {a b d : Value} {c : Conf} (h : Config3F S w a b d c) : Config3 w a b d c := ⟨h.v.ints, h.n.ints, h.l.ints⟩
theorem Config3F.base {S S' : Nat} {w : World} {a b d : Value} {c : Conf} (h : Config3F S w a b d c) (hs : S' ≤ S) : Config3F S' w a b d c := ⟨h.v.base hs, h.n.base hs, h.l.base hs⟩
theorem Config3F.up {S S' : Nat} {w w' : World} {a b d : Value} {c : Conf} (h : Config3F S w a b d c) (hu : Up S' w w') (hs : S' ≤ S) : Config3F S w' a b d c := ⟨h.v.up hu hs, h.n.up hu hs, h.l.up hu hs⟩
theorem Config3F.nil (S : Nat) (w : World) : Config3F S w (.slice none 0 0) (.slice none 0 0) (.slice none 0 0) ⟨[], [], []⟩ := ⟨.nil S w, .nil S w, .nil S w⟩
end Go.Proofs.Ytkcllpbbjlbfaaa
