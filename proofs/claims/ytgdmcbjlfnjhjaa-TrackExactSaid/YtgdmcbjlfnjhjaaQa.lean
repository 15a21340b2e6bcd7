/-
  RlogMatch, in plain Lean: what becomes of a log that shares a beginning with another.
-/
import Derived.Test.YtgdmcbjlfnjhjaaLg
namespace Go.Proofs.Ytgdmcbjlfnjhjaa.Lg
open Wm Mm
set_option linter.unusedVariables false
set_option linter.unusedSimpArgs false

def pickP (c n : Int) : Nat := (c % n).toNat
theorem pickP_lt {c n : Int} (h : 0 < n) : (pickP c n : Int) < n := by
  have h1 := Int.emod_nonneg c (by omega : n ≠ 0)
  have h2 := Int.emod_lt_of_pos c h
  unfold pickP; omega
/-- entries behind b whose terms rise by raw steps -/
def raise (t0 m b : Int) (d : Int → List UInt8) (cs : List Int) : Nat → List EntP × Int
  | 0 => ([], t0)
  | k + 1 => ((raise t0 m b d cs k).1 ++ [⟨b + 1 + k, (raise t0 m b d cs k).2 + pickP (cs.getD k 0) m, 1, d ((raise t0 m b d cs k).2 + pickP (cs.getD k 0) m)⟩], (raise t0 m b d cs k).2 + pickP (cs.getD k 0) m)
theorem raise_len (t0 m b : Int) (d : Int → List UInt8) (cs : List Int) : ∀ k, (raise t0 m b d cs k).1.length = k
  | 0 => rfl
  | k + 1 => by simp [raise, raise_len t0 m b d cs k]
theorem raise_term {t0 m b : Int} {d : Int → List UInt8} {cs : List Int} (hm : 0 < m) : ∀ k : Nat, t0 ≤ (raise t0 m b d cs k).2 ∧ (raise t0 m b d cs k).2 ≤ t0 + (m - 1) * k
  | 0 => by simp [raise]
  | k + 1 => by
    have h := raise_term (t0 := t0) (b := b) (d := d) (cs := cs) hm k
    have h1 := pickP_lt (c := cs.getD k 0) hm
    have h2 : (m - 1) * ((k + 1 : Nat) : Int) = (m - 1) * k + (m - 1) := by rw [Int.natCast_add, Int.mul_add]; simp
    simp only [raise, h2]
    omega
theorem raise_at {t0 m b : Int} {d : Int → List UInt8} {cs : List Int} (hm : 0 < m) : ∀ (k i : Nat) (h : i < (raise t0 m b d cs k).1.length), ((raise t0 m b d cs k).1[i]).idx = b + 1 + i ∧ t0 ≤ ((raise t0 m b d cs k).1[i]).trm ∧ ((raise t0 m b d cs k).1[i]).trm ≤ t0 + (m - 1) * k
  | 0, i, h => by simp [raise] at h
  | k + 1, i, h => by
    have hl := raise_len t0 m b d cs k
    have h2 : (m - 1) * ((k + 1 : Nat) : Int) = (m - 1) * k + (m - 1) := by rw [Int.natCast_add, Int.mul_add]; simp
    rcases Nat.lt_or_ge i k with hi | hi
    · have h3 := raise_at (t0 := t0) (b := b) (d := d) (cs := cs) hm k i (by omega)
      have e : (raise t0 m b d cs (k + 1)).1[i] = (raise t0 m b d cs k).1[i]'(by omega) := by
        simp only [raise]; exact List.getElem_append_left (by omega)
      rw [e, h2]
      exact ⟨h3.1, h3.2.1, by omega⟩
    · have hik : i = k := by rw [raise_len] at h; omega
      subst hik
      have e : (raise t0 m b d cs (i + 1)).1[i] = ⟨b + 1 + i, (raise t0 m b d cs i).2 + pickP (cs.getD i 0) m, 1, d ((raise t0 m b d cs i).2 + pickP (cs.getD i 0) m)⟩ := by
        simp only [raise]
        rw [List.getElem_append_right (by omega)]
        simp
      have h4 := raise_term (t0 := t0) (b := b) (d := d) (cs := cs) hm (i + 1)
      simp only [raise] at h4
      rw [e]
      exact ⟨rfl, h4.1, h4.2⟩
/-- the term at a place of a list that begins at 1 -/
def termIn (l : List EntP) (p : Nat) : Int := if p = 0 then 0 else ((l[p - 1]?).map (·.trm)).getD 0
theorem termAt0 {l : List EntP} {p : Nat} (h : p ≤ l.length) : termAt 0 0 l p = (termIn l p, 0) := by
  unfold termAt termIn
  rcases Nat.eq_zero_or_pos p with h0 | h0
  · subst h0
    simp
  · rw [if_neg (by omega), if_neg (by omega), if_neg (by omega), if_neg (by omega)]
    have e : ((p : Int) - 0 - 1).toNat = p - 1 := by omega
    rw [e, List.getElem?_eq_getElem (by omega : p - 1 < l.length)]
    rfl
theorem down_in (base bt : Int) (es : List EntP) (t : Int) : ∀ (n : Nat) (p : Int), base + 1 ≤ p → base + 1 ≤ down base bt es t n p ∧ down base bt es t n p ≤ p
  | 0, p, h => ⟨h, Int.le_refl _⟩
  | n + 1, p, h => by
    unfold down
    split
    · rename_i hc
      have := down_in base bt es t n (p - 1) (by omega)
      omega
    · exact ⟨h, Int.le_refl _⟩
theorem hint_in {l : List EntP} {p : Nat} (h : 1 ≤ p) : 1 ≤ hintOf 0 0 l p ∧ hintOf 0 0 l p ≤ p := by
  unfold hintOf firstOf
  split
  · omega
  · have := down_in 0 0 l (termAt 0 0 l p).1 ((p : Int) - 0).toNat p (by omega)
    omega
theorem skip0 {prev : Nat} {t : Int} {r : List EntP} : skip 0 prev t r = ((prev : Int), t, r) := by
  cases r with
  | nil => rfl
  | cons e r => unfold skip; rw [if_neg (by omega)]
theorem ext0 {l es : List EntP} {prev : Nat} {t : Int} : ext 0 0 l prev t es = if termAt 0 0 l prev = (t, 0) then ⟨(put 0 0 l 0 es).1, lastI prev es, (put 0 0 l 0 es).2, 0⟩ else ⟨l, 0, 0, hintOf 0 0 l prev⟩ := by
  unfold ext
  rw [skip0]
  simp only []
  rw [if_neg (by omega)]
/-- the two logs share a beginning of k, and no term behind it -/
structure Share (L M : List EntP) (k : Nat) : Prop where
  okL : Ok 0 L
  okM : Ok 0 M
  kL : k ≤ L.length
  kM : k ≤ M.length
  same : ∀ i, i < k → M[i]? = L[i]?
  apart : ∀ i, k ≤ i → ∀ (h : i < M.length) (h2 : i < L.length), M[i].trm ≠ L[i].trm
  lo : ∀ i (h : i < L.length), 1 ≤ L[i].trm
theorem Share.fit {L M : List EntP} {k p : Nat} (h : Share L M k) (hp : p ≤ L.length) : termAt 0 0 M p = (termIn L p, 0) ↔ p ≤ k := by
  constructor
  · intro he
    rcases Nat.lt_or_ge k p with hk | hk
    · exfalso
      rcases Nat.lt_or_ge M.length p with hm | hm
      · rw [termAt_far (by omega) (by omega)] at he
        have := (Prod.mk.injEq _ _ _ _ ▸ he).2
        omega
      · rw [termAt0 hm] at he
        have e1 : termIn M p = termIn L p := (Prod.mk.injEq _ _ _ _ ▸ he).1
        have := h.apart (p - 1) (by omega) (by omega) (by omega)
        unfold termIn at e1
        rw [if_neg (by omega), if_neg (by omega), List.getElem?_eq_getElem (by omega : p - 1 < M.length), List.getElem?_eq_getElem (by omega : p - 1 < L.length)] at e1
        exact this e1
    · exact hk
  · intro hk
    rw [termAt0 (Nat.le_trans hk h.kM)]
    unfold termIn
    split
    · rfl
    · rw [h.same (p - 1) (by omega)]
theorem Share.put {L M : List EntP} {k : Nat} (h : Share L M k) : ∀ (n p : Nat), p + n ≤ L.length → p ≤ k →
    Lg.put 0 0 M 0 ((L.drop p).take n) = if p + n ≤ k then (M, 0) else (L.take (p + n), (k : Int) + 1)
  | 0, p, _, hk => by simp [Lg.put, hk]
  | n + 1, p, hn, hk => by
    have hpl : p < L.length := by omega
    have e1 : (L.drop p).take (n + 1) = L[p] :: (L.drop (p + 1)).take n := by
      rw [List.drop_eq_getElem_cons hpl, List.take_succ_cons]
    have hidx := h.okL.at_ p hpl
    rw [e1]
    unfold Lg.put
    rcases Nat.lt_or_ge p k with hpk | hpk
    · have hf : fits 0 0 M L[p] = true := by
        unfold fits
        rw [hidx, show ((0 : Int) + 1 + p) = ((p + 1 : Nat) : Int) from by omega, (h.fit (p := p + 1) (by omega)).2 (by omega)]
        simp [termIn, List.getElem?_eq_getElem hpl]
      rw [if_pos hf, Share.put h n (p + 1) (by omega) (by omega), show p + 1 + n = p + (n + 1) from by omega]
    · obtain rfl : p = k := by omega
      have hf : fits 0 0 M L[p] ≠ true := by
        unfold fits
        rw [hidx, show ((0 : Int) + 1 + p) = ((p + 1 : Nat) : Int) from by omega]
        intro he0
        have he := of_decide_eq_true he0
        have := (h.fit (p := p + 1) (by omega)).1 (by rw [he]; simp [termIn, List.getElem?_eq_getElem hpl])
        omega
      rw [if_neg hf, if_pos rfl, hidx, show ((0 : Int) + 1 + p - 0 - 1).toNat = p from by omega, if_neg (by omega)]
      have e2 : M.take p = L.take p := by
        apply List.ext_getElem?
        intro i
        rw [List.getElem?_take, List.getElem?_take]
        split
        · exact h.same i (by assumption)
        · rfl
      have hl : (M.take p ++ [L[p]]).length = p + 1 := by rw [List.length_append, List.length_take, Nat.min_eq_left h.kM]; rfl
      rw [put_new _ _ _ _ _ (by omega) (fun j hj => by
        rw [hl]
        have hj2 : j < n := by rw [List.length_take] at hj; omega
        rw [List.getElem_take, List.getElem_drop, h.okL.at_ _ (by omega)]
        omega)]
      rw [e2]
      refine Prod.ext ?_ ?_
      · show L.take p ++ [L[p]] ++ (L.drop (p + 1)).take n = L.take (p + (n + 1))
        rw [List.append_assoc, List.singleton_append, ← e1]; exact List.take_add.symm
      · show (0 : Int) + 1 + p = p + 1
        omega
end Go.Proofs.Ytgdmcbjlfnjhjaa.Lg
