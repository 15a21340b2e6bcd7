/-
  Bounds of keys, in plain Lean: the order of texts, who has a key, which bounds may be.
-/
import Derived.Test.YtnmlkoidmacinaaDoorWm
namespace Go.Proofs.YtnmlkoidmacinaaDoor.Dg
open Wm
set_option linter.unusedVariables false
set_option linter.unusedSimpArgs false

abbrev lt (a b : List UInt8) : Bool := Op.bytesLess a b
def le (a b : List UInt8) : Bool := lt a b || a == b
theorem lt_irr : ∀ a, lt a a = false
  | [] => rfl
  | a :: x => by
    have := lt_irr x
    simp only [lt, Op.bytesLess] at this ⊢
    simp [this]
theorem lt_trans : ∀ {a b c : List UInt8}, lt a b = true → lt b c = true → lt a c = true
  | _, [], _, h, _ => by simp [lt, Op.bytesLess] at h
  | _, _ :: _, [], _, h => by simp [lt, Op.bytesLess] at h
  | [], _ :: _, _ :: _, _, _ => rfl
  | a :: x, b :: y, c :: z, h, k => by
    simp only [lt, Op.bytesLess, Bool.or_eq_true, decide_eq_true_eq, Bool.and_eq_true, beq_iff_eq] at h k ⊢
    rcases h with h | ⟨rfl, h⟩
    · rcases k with k | ⟨rfl, k⟩
      · exact Or.inl (UInt8.lt_trans h k)
      · exact Or.inl h
    · rcases k with k | ⟨rfl, k⟩
      · exact Or.inl k
      · exact Or.inr ⟨rfl, lt_trans h k⟩
theorem lt_tri : ∀ {a b : List UInt8}, lt a b = false → lt b a = false → a = b
  | [], [], _, _ => rfl
  | [], _ :: _, h, _ => by simp [lt, Op.bytesLess] at h
  | _ :: _, [], _, h => by simp [lt, Op.bytesLess] at h
  | a :: x, b :: y, h, k => by
    simp only [lt, Op.bytesLess, Bool.or_eq_false_iff, decide_eq_false_iff_not, Bool.and_eq_false_iff] at h k
    obtain ⟨h1, h2⟩ := h
    obtain ⟨k1, k2⟩ := k
    have e : a = b := UInt8.le_antisymm (UInt8.not_lt.1 k1) (UInt8.not_lt.1 h1)
    subst e
    rcases h2 with h2 | h2
    · simp at h2
    · rcases k2 with k2 | k2
      · simp at k2
      · rw [lt_tri h2 k2]
theorem lt_asym {a b : List UInt8} (h : lt a b = true) : lt b a = false := by
  cases e : lt b a
  · rfl
  · have := lt_trans h e
    rw [lt_irr] at this
    cases this
theorem gt_lt (a b : List UInt8) : (!(lt a b || a == b)) = lt b a := by
  cases h : lt a b
  · cases k : lt b a
    · have := lt_tri h k
      subst this
      simp
    · have : a ≠ b := fun e => by subst e; rw [lt_irr] at k; cases k
      simp [this]
  · simp [lt_asym h]
theorem le_not (a b : List UInt8) : le a b = !(lt b a) := by
  have := gt_lt a b
  unfold le
  rw [← this]
  simp
theorem lt_nil (a : List UInt8) : lt a [] = false := by cases a <;> rfl
theorem nil_lt {a : List UInt8} (h : a ≠ []) : lt [] a = true := by cases a; exact absurd rfl h; rfl
theorem lt_ne {a b : List UInt8} (h : lt a b = true) : a ≠ b := fun e => by subst e; rw [lt_irr] at h; cases h
theorem lt_le {a b c : List UInt8} (h : lt a b = true) (k : lt c b = false) : lt a c = true := by
  cases e : lt b c
  · have := lt_tri e k
    subst this
    exact h
  · exact lt_trans h e
theorem le_lt {a b c : List UInt8} (h : lt b a = false) (k : lt b c = true) : lt a c = true := by
  cases e : lt a b
  · have := lt_tri e h
    subst this
    exact k
  · exact lt_trans e k

structure BoundP where
  frm : List UInt8
  host : Int
deriving DecidableEq

/-- who has a key: the last bound that is not above it -/
def hostUp (key : List UInt8) (h : Int) (l : List BoundP) : Int := l.foldl (fun h b => if le b.frm key then b.host else h) h
def hostOf (key : List UInt8) (l : List BoundP) : Int := hostUp key 0 l
theorem hostOf_take (key : List UInt8) (l : List BoundP) {i : Nat} (h : i < l.length) : hostOf key (l.take (i + 1)) = if le l[i].frm key then l[i].host else hostOf key (l.take i) := by
  have e : l.take (i + 1) = l.take i ++ [l[i]] := by rw [List.take_add_one, List.getElem?_eq_getElem h]; rfl
  unfold hostOf hostUp
  rw [e, List.foldl_append]
  rfl
theorem hostUp_none {key : List UInt8} : ∀ (l : List BoundP) (h : Int), (∀ b ∈ l, le b.frm key = false) → hostUp key h l = h
  | [], _, _ => rfl
  | b :: r, h, hh => by
    unfold hostUp
    rw [List.foldl_cons, if_neg (by rw [hh b (List.mem_cons_self)]; decide)]
    exact hostUp_none r h (fun c hc => hh c (List.mem_cons_of_mem _ hc))
theorem hostOf_at {key : List UInt8} {l : List BoundP} {m : Nat} (h : m < l.length) (h1 : le l[m].frm key = true) (h2 : ∀ i (hi : i < l.length), m < i → le l[i].frm key = false) : hostOf key l = l[m].host := by
  have e : l = l.take (m + 1) ++ l.drop (m + 1) := (List.take_append_drop _ _).symm
  have e2 : hostOf key l = hostUp key (hostOf key (l.take (m + 1))) (l.drop (m + 1)) := by
    conv => lhs; rw [e]
    unfold hostOf hostUp
    rw [List.foldl_append]
  rw [e2, hostUp_none, hostOf_take key l h, if_pos h1]
  intro b hb
  obtain ⟨i, hi, rfl⟩ := List.getElem_of_mem hb
  rw [List.getElem_drop]
  exact h2 _ _ (by omega)

/-- may the bound at a place be, behind the one ahead of it? -/
def okAtD (l : List BoundP) (j : Nat) : Bool :=
  match l[j]? with
  | none => true
  | some b => decide (1 ≤ b.host) && decide (b.host ≤ 9) && decide (b.frm.length ≤ 16) && (match j with
    | 0 => b.frm == []
    | i + 1 => match l[i]? with
      | none => true
      | some p => lt p.frm b.frm && p.host != b.host)
def okB (l : List BoundP) : Bool := (List.range l.length).all (okAtD l) && decide (0 < l.length)
theorem okB_all {l : List BoundP} (h : ∀ j, j < l.length → okAtD l j = true) : okB l = decide (0 < l.length) := by
  have : (List.range l.length).all (okAtD l) = true := List.all_eq_true.2 (fun j hj => h j (List.mem_range.1 hj))
  unfold okB
  rw [this, Bool.true_and]
theorem okB_bad {l : List BoundP} {j : Nat} (hj : j < l.length) (h : okAtD l j = false) : okB l = false := by
  have : (List.range l.length).all (okAtD l) = false := by
    cases e : (List.range l.length).all (okAtD l)
    · rfl
    · have := List.all_eq_true.1 e j (List.mem_range.2 hj)
      rw [h] at this
      cases this
  unfold okB
  rw [this, Bool.false_and]
theorem okAt_zero {l : List BoundP} (h : 0 < l.length) : okAtD l 0 = (decide (1 ≤ l[0].host) && decide (l[0].host ≤ 9) && decide (l[0].frm.length ≤ 16) && (l[0].frm == [])) := by
  unfold okAtD
  rw [List.getElem?_eq_getElem h]
  rfl
theorem okAt_succ {l : List BoundP} {i : Nat} (h : i + 1 < l.length) : okAtD l (i + 1) = (decide (1 ≤ l[i + 1].host) && decide (l[i + 1].host ≤ 9) && decide (l[i + 1].frm.length ≤ 16) && (lt (l[i]'(by omega)).frm l[i + 1].frm && (l[i]'(by omega)).host != l[i + 1].host)) := by
  unfold okAtD
  rw [List.getElem?_eq_getElem h]
  simp only []
  rw [List.getElem?_eq_getElem (by omega)]
theorem okB_get {l : List BoundP} (h : okB l = true) {j : Nat} (hj : j < l.length) : okAtD l j = true := by
  unfold okB at h
  rw [Bool.and_eq_true] at h
  exact List.all_eq_true.1 h.1 j (List.mem_range.2 hj)
theorem okB_pos {l : List BoundP} (h : okB l = true) : 0 < l.length := by
  unfold okB at h
  rw [Bool.and_eq_true] at h
  exact of_decide_eq_true h.2
theorem okB_first {l : List BoundP} (h : okB l = true) : (l[0]'(okB_pos h)).frm = [] := by
  have := okB_get h (okB_pos h)
  rw [okAt_zero (okB_pos h)] at this
  simp only [Bool.and_eq_true, beq_iff_eq] at this
  exact this.2
theorem okB_step {l : List BoundP} (h : okB l = true) {i : Nat} (hi : i + 1 < l.length) : lt (l[i]'(by omega)).frm l[i + 1].frm = true := by
  have := okB_get h hi
  rw [okAt_succ hi] at this
  simp only [Bool.and_eq_true] at this
  exact this.2.1
theorem okB_lt {l : List BoundP} (h : okB l = true) {i : Nat} : ∀ (j : Nat) (hij : i < j) (hj : j < l.length), lt (l[i]'(by omega)).frm l[j].frm = true
  | 0, h1, _ => by omega
  | j + 1, h1, hj => by
    rcases Nat.lt_or_ge i j with h2 | h2
    · exact lt_trans (okB_lt h j h2 (by omega)) (okB_step h hj)
    · have : i = j := by omega
      subst this
      exact okB_step h hj
theorem okB_hostOf {l : List BoundP} (h : okB l = true) {i : Nat} (hi : i < l.length) : hostOf l[i].frm l = l[i].host :=
  hostOf_at hi (by rw [le_not, lt_irr]; rfl) (fun j hj hij => by rw [le_not, okB_lt h j hij hj]; rfl)
theorem okB_hostIn {l : List BoundP} (h : okB l = true) {b : BoundP} (hb : b ∈ l) : hostOf b.frm l = b.host := by
  obtain ⟨i, hi, rfl⟩ := List.getElem_of_mem hb
  exact okB_hostOf h hi

/-- where a key's place is: how many bounds lie below it -/
structure Place (l : List BoundP) (key : List UInt8) (k : Nat) : Prop where
  le : k ≤ l.length
  lo : ∀ i (hi : i < l.length), i < k → lt l[i].frm key = true
  hi : ∀ i (hi : i < l.length), k ≤ i → lt l[i].frm key = false
/-- the number of the last bound that is not above a key -/
theorem Place.at {l : List BoundP} {key : List UInt8} {k : Nat} (h : Place l key k) (ho : okB l = true) :
    (∃ (hk : k < l.length), l[k].frm = key ∧ hostOf key l = l[k].host) ∨ ((k < l.length → (l[k]?.map BoundP.frm) ≠ some key) ∧ ∃ (hk : k - 1 < l.length), 1 ≤ k ∧ hostOf key l = l[k - 1].host) := by
  have h0 := okB_pos ho
  by_cases hk : ∃ (hk : k < l.length), l[k].frm = key
  · obtain ⟨hk, e⟩ := hk
    refine Or.inl ⟨hk, e, ?_⟩
    rw [← e]
    exact okB_hostOf ho hk
  · refine Or.inr ⟨fun h1 h2 => hk ⟨h1, by rw [List.getElem?_eq_getElem h1] at h2; simpa using h2⟩, ?_⟩
    have hk1 : 1 ≤ k := by
      rcases Nat.eq_zero_or_pos k with e | e
      · exfalso
        subst e
        have h3 := h.hi 0 h0 (Nat.le_refl _)
        refine hk ⟨h0, lt_tri h3 ?_⟩
        rw [okB_first ho, lt_nil]
      · exact e
    have hl := h.le
    refine ⟨by omega, hk1, hostOf_at (by omega) ?_ ?_⟩
    · rw [le_not, lt_asym (h.lo (k - 1) (by omega) (by omega))]; rfl
    · intro i hi hki
      rw [le_not]
      have h3 := h.hi i hi (by omega)
      cases h4 : lt key l[i].frm
      · have e := lt_tri h3 h4
        rcases Nat.lt_or_ge k i with h5 | h5
        · have h6 := okB_lt ho i h5 hi
          rw [e, h.hi k (by omega) (Nat.le_refl _)] at h6
          cases h6
        · have : i = k := by omega
          subst this
          exact absurd ⟨hi, e⟩ hk
      · rfl
end Go.Proofs.YtnmlkoidmacinaaDoor.Dg
