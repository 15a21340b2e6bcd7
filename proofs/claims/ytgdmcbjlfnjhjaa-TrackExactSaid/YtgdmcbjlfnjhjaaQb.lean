/-
  RlogMatch, in plain Lean: the hints lead back; the two logs that the law makes.
-/
import Derived.Test.YtgdmcbjlfnjhjaaQa
namespace Go.Proofs.Ytgdmcbjlfnjhjaa.Lg
open Wm Mm
set_option linter.unusedVariables false
set_option linter.unusedSimpArgs false

/-- how many runs of one term lie in the first so many -/
def runs (l : List EntP) : Nat → Nat
  | 0 => 0
  | p + 1 => runs l p + if p = 0 ∨ termIn l (p + 1) ≠ termIn l p then 1 else 0
theorem runs_mono (l : List EntP) {p q : Nat} (h : p ≤ q) : runs l p ≤ runs l q := by
  induction q with
  | zero => have : p = 0 := by omega
            subst this; exact Nat.le_refl _
  | succ q ih =>
    rcases Nat.lt_or_ge q p with h1 | h1
    · have : p = q + 1 := by omega
      subst this; exact Nat.le_refl _
    · have := ih h1
      simp only [runs]
      omega
theorem runs_le (l : List EntP) : ∀ p, runs l p ≤ p
  | 0 => Nat.le_refl _
  | p + 1 => by
    have := runs_le l p
    simp only [runs]
    split <;> omega
theorem down_runs (l : List EntP) (t : Int) : ∀ (n p : Nat), 1 ≤ p → p ≤ l.length → p ≤ n → termIn l p = t →
    ∃ q : Nat, down 0 0 l t n p = (q : Int) + 1 ∧ q < p ∧ runs l q + 1 ≤ runs l p
  | 0, p, h, _, h2, _ => by omega
  | n + 1, p, h, hl, hn, ht => by
    unfold down
    obtain ⟨p, rfl⟩ : ∃ k, p = k + 1 := ⟨p - 1, by omega⟩
    have e : ((p + 1 : Nat) : Int) - 1 = (p : Nat) := by omega
    rw [e, termAt0 (by omega : p ≤ l.length)]
    split
    · rename_i hc
      obtain ⟨q, h1, h2, h3⟩ := down_runs l t n p (by omega) (by omega) (by omega) hc.2
      exact ⟨q, h1, by omega, Nat.le_trans h3 (runs_mono l (by omega))⟩
    · rename_i hc
      refine ⟨p, by omega, by omega, ?_⟩
      simp only [runs]
      rw [if_pos]
      · exact Nat.le_refl _
      · rcases Nat.eq_zero_or_pos p with h0 | h0
        · exact Or.inl h0
        · refine Or.inr (fun e2 => hc ⟨by omega, ?_⟩)
          show termIn l p = t
          rw [← e2, ht]
/-- where a search stands that goes back -/
def Back (l : List EntP) (i p : Nat) : Prop := (l.length < p ∧ i = 0) ∨ (p ≤ l.length ∧ runs l p + i ≤ runs l l.length + 1)
theorem Back.start (l : List EntP) (p : Nat) : Back l 0 p := by
  rcases Nat.lt_or_ge l.length p with h | h
  · exact Or.inl ⟨h, rfl⟩
  · refine Or.inr ⟨h, ?_⟩
    have := runs_mono l h
    omega
theorem Back.more {l : List EntP} {i p : Nat} (h : Back l i p) : i ≤ runs l l.length + 1 := by
  rcases h with h | h <;> omega
theorem Back.step {l : List EntP} {i p : Nat} (h : Back l i p) (hp : 1 ≤ p) : ∃ q : Nat, hintOf 0 0 l p = (q : Int) + 1 ∧ q < p ∧ Back l (i + 1) q := by
  unfold hintOf
  rcases h with ⟨h1, rfl⟩ | ⟨h1, h2⟩
  · rw [if_pos (by omega)]
    exact ⟨l.length, by omega, h1, Or.inr ⟨Nat.le_refl _, by omega⟩⟩
  · rw [if_neg (by omega)]
    unfold firstOf
    rw [termAt0 h1, show ((p : Int) - 0).toNat = p from by omega]
    obtain ⟨q, h3, h4, h5⟩ := down_runs l (termIn l p) p p hp h1 (Nat.le_refl _) rfl
    exact ⟨q, h3, h4, Or.inr ⟨by omega, by omega⟩⟩
/-- the leader's log, the follower's -/
def leadL (steps : List Int) : List EntP := (raise 1 3 0 (fun t => [UInt8.ofNat t.toNat]) steps (min steps.length 40)).1
def mineL (L : List EntP) (k : Nat) (own : List Int) : List EntP := L.take k ++ (raise 100 2 k (fun _ => [111, 119, 110]) own (min own.length 20)).1
theorem leadL_len (steps : List Int) : (leadL steps).length = min steps.length 40 := raise_len _ _ _ _ _ _
theorem mineL_len {L : List EntP} {k : Nat} (own : List Int) (h : k ≤ L.length) : (mineL L k own).length = k + min own.length 20 := by
  unfold mineL
  rw [List.length_append, raise_len, List.length_take, Nat.min_eq_left h]
theorem share (steps own : List Int) {k : Nat} (hk : k ≤ (leadL steps).length) : Share (leadL steps) (mineL (leadL steps) k own) k := by
  have hl := leadL_len steps
  have hm := mineL_len own hk
  have hL : ∀ (i : Nat) (h : i < (leadL steps).length), (leadL steps)[i].idx = 0 + 1 + i ∧ 1 ≤ (leadL steps)[i].trm ∧ (leadL steps)[i].trm ≤ 1 + (3 - 1) * (min steps.length 40 : Nat) := fun i h => raise_at (by decide) _ i h
  have hO : ∀ (i : Nat) (h : i < (mineL (leadL steps) k own).length), k ≤ i → (mineL (leadL steps) k own)[i].idx = 0 + 1 + i ∧ 100 ≤ (mineL (leadL steps) k own)[i].trm := by
    intro i h hi
    have hi2 : i - k < (raise 100 2 k (fun _ => [111, 119, 110]) own (min own.length 20)).1.length := by rw [raise_len]; omega
    have e0 : (mineL (leadL steps) k own)[i]? = (raise 100 2 k (fun _ => [111, 119, 110]) own (min own.length 20)).1[i - k]? := by
      unfold mineL
      rw [List.getElem?_append_right (by rw [List.length_take]; omega), List.length_take, Nat.min_eq_left hk]
    rw [List.getElem?_eq_getElem h, List.getElem?_eq_getElem hi2] at e0
    have e := Option.some.inj e0
    have h3 := raise_at (t0 := 100) (m := 2) (b := k) (d := fun _ => [111, 119, 110]) (cs := own) (by decide) (min own.length 20) (i - k) hi2
    rw [e]
    exact ⟨by rw [h3.1]; omega, h3.2.1⟩
  have hS : ∀ i, i < k → (mineL (leadL steps) k own)[i]? = (leadL steps)[i]? := by
    intro i hi
    unfold mineL
    rw [List.getElem?_append_left (by rw [List.length_take]; omega), List.getElem?_take, if_pos hi]
  have hT : ∀ (i : Nat) (h : i < (mineL (leadL steps) k own).length) (hi : i < k), (mineL (leadL steps) k own)[i] = (leadL steps)[i]'(by omega) := by
    intro i h hi
    have := hS i hi
    rw [List.getElem?_eq_getElem h, List.getElem?_eq_getElem (by omega)] at this
    exact Option.some.inj this
  refine ⟨⟨by omega, by omega, by omega, fun i h => (hL i h).1⟩, ⟨by omega, by omega, by omega, fun i h => ?_⟩, hk, by omega, hS, fun i hi h h2 he => ?_, fun i h => (hL i h).2.1⟩
  · rcases Nat.lt_or_ge i k with hi | hi
    · rw [hT i h hi]; exact (hL i (by omega)).1
    · exact (hO i h hi).1
  · have h3 := (hO i h hi).2
    have h4 := (hL i h2).2.2
    rw [he] at h3
    omega
/-- what the law looks at -/
theorem Share.behind {L M : List EntP} {k : Nat} (h : Share L M k) {p n : Nat} (hn : p + n ≤ L.length) : Behind p ((L.drop p).take n) := by
  intro j hj
  have : j < n := by rw [List.length_take] at hj; omega
  rw [List.getElem_take, List.getElem_drop, h.okL.at_ _ (by omega)]
  omega
theorem Share.extFit {L M : List EntP} {k p n : Nat} (h : Share L M k) (hn : p + n ≤ L.length) (hk : p ≤ k) :
    ext 0 0 M p (termIn L p) ((L.drop p).take n) = if p + n ≤ k then ⟨M, (p + n : Nat), 0, 0⟩ else ⟨L.take (p + n), (p + n : Nat), (k : Int) + 1, 0⟩ := by
  rw [ext0, if_pos ((h.fit (by omega)).2 hk), (h.behind hn).last, h.put n p hn hk]
  have hl : ((L.drop p).take n).length = n := by rw [List.length_take, List.length_drop]; omega
  rw [hl]
  split <;> simp
theorem Share.extOff {L M : List EntP} {k p n : Nat} (h : Share L M k) (hp : p ≤ L.length) (hk : k < p) (es : List EntP) :
    ext 0 0 M p (termIn L p) es = ⟨M, 0, 0, hintOf 0 0 M p⟩ := by
  rw [ext0, if_neg (fun e => by have := (h.fit hp).1 e; omega)]
end Go.Proofs.Ytgdmcbjlfnjhjaa.Lg
