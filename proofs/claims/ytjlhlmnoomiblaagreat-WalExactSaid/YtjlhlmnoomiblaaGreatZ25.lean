/-
  Reading entries and configurations: both ways agree (plain).
-/
import Derived.Test.YtjlhlmnoomiblaaGreatZ24
import Derived.Test.YtjlhlmnoomiblaaGreatZ18
namespace Go.Proofs.YtjlhlmnoomiblaaGreat
open Go.RowKit Wm Mm
set_option linter.unusedVariables false

theorem entS_error (z : Int) : (entS (.error z)).2 = .error z := by
  unfold entS
  simp only [stepV, stepS, badS]
  exact ite_self _
theorem ent_same (s : List UInt8) : closeS (entS (.ok s)).1 (entS (.ok s)).2 = full (rdEnt s) := by
  unfold entS rdEnt
  match h1 : rdNum s with
  | .error z =>
    simp only [stepS, stepV, h1, rvalOf, rstOf, badS, ite_self]
    rw [closeS_error _ (rdNum_err h1)]; rfl
  | .ok (i, s1) =>
    simp only [stepS, stepV, h1, rvalOf, rstOf]
    match h2 : rdNum s1 with
    | .error z =>
      simp only [badS, ite_self]
      rw [closeS_error _ (rdNum_err h2)]; rfl
    | .ok (t, s2) =>
      simp only []
      match h3 : rdNum s2 with
      | .error z =>
        simp only [badS, ite_self]
        rw [closeS_error _ (rdNum_err h3)]; rfl
      | .ok (k, s3) =>
        simp only []
        match h4 : rdText 256 s3 with
        | .error z =>
          simp only [badS, ite_self]
          rw [closeS_error _ (rdText_err h4)]; rfl
        | .ok (d, s4) =>
          simp only []
          by_cases hi : isEntry i t k d = true
          · rw [if_pos hi, if_pos hi]; exact closeS_ok _ _
          · rw [if_neg hi, if_neg hi, badS]; rw [closeS_error _ (by decide)]; rfl

theorem loopS_error (k : Nat) (acc : List Nat) (z : Int) : (loopS k acc (.error z)).2 = .error z := by
  cases k <;> rfl
theorem loopS_same (k : Nat) : ∀ (acc : List Nat) (s : List UInt8), (∀ l t, rdMany k acc s = .ok (l, t) → loopS k acc (.ok s) = (l, .ok t)) ∧ (∀ z, rdMany k acc s = .error z → (loopS k acc (.ok s)).2 = .error z) := by
  induction k with
  | zero =>
    intro acc s
    refine ⟨fun l t h => ?_, fun z h => ?_⟩
    · simp only [rdMany] at h; cases h; rfl
    · simp only [rdMany] at h; cases h
  | succ k ih =>
    intro acc s
    simp only [rdMany, loopS]
    match h1 : rdNum s with
    | .error z =>
      simp only [stepS, stepV, h1, rvalOf, rstOf]
      refine ⟨fun l t h => (by cases h), fun y h => ?_⟩
      cases h
      exact loopS_error _ _ _
    | .ok (x, t) =>
      simp only [stepS, stepV, h1, rvalOf, rstOf]
      exact ih _ _
theorem rdMany_err (k : Nat) : ∀ {acc : List Nat} {s : List UInt8} {z : Int}, rdMany k acc s = .error z → z ≠ 0 := by
  induction k with
  | zero => intro acc s z h; simp only [rdMany] at h; cases h
  | succ k ih =>
    intro acc s z h
    simp only [rdMany] at h
    match h1 : rdNum s with
    | .error y => rw [h1] at h; cases h; exact rdNum_err h1
    | .ok (x, t) => rw [h1] at h; exact ih h
theorem rdList_err {most : Nat} {s : List UInt8} {z : Int} (h : rdList most s = .error z) : z ≠ 0 := by
  unfold rdList at h
  match h1 : rdUpTo most s with
  | .error y => rw [h1] at h; cases h; exact rdUpTo_err h1
  | .ok (x, t) => rw [h1] at h; exact rdMany_err _ h
theorem listS_error (most : Nat) (z : Int) : (listS most (.error z)).2 = .error z := rfl
theorem listS_ok {most : Nat} {s : List UInt8} {l : List Nat} {t : List UInt8} (h : rdList most s = .ok (l, t)) : listS most (.ok s) = (l, .ok t) := by
  unfold rdList at h
  unfold listS
  match h1 : rdUpTo most s with
  | .error y => rw [h1] at h; cases h
  | .ok (x, u) =>
    rw [h1] at h
    simp only [stepS, stepV, h1, rvalOf, rstOf]
    exact (loopS_same x [] u).1 l t h
theorem listS_err {most : Nat} {s : List UInt8} {z : Int} (h : rdList most s = .error z) : (listS most (.ok s)).2 = .error z := by
  unfold rdList at h
  unfold listS
  match h1 : rdUpTo most s with
  | .error y => rw [h1] at h; cases h; simp only [stepS, stepV, h1, rvalOf, rstOf]; rfl
  | .ok (x, u) =>
    rw [h1] at h
    simp only [stepS, stepV, h1, rvalOf, rstOf]
    exact (loopS_same x [] u).2 z h
theorem confS_of {σ : St} : (confS σ).2 = if validB (confS σ).1 = true then (listS 9 (listS 9 (listS 9 σ).2).2).2 else badS 8 (listS 9 (listS 9 (listS 9 σ).2).2).2 := rfl
theorem confS_err {σ : St} {z : Int} (h : (listS 9 (listS 9 (listS 9 σ).2).2).2 = .error z) : (confS σ).2 = .error z := by
  rw [confS_of, h]
  exact ite_self _
theorem conf_same (s : List UInt8) : closeS (confS (.ok s)).1 (confS (.ok s)).2 = full (rdConf s) := by
  unfold rdConf
  match h1 : rdList 9 s with
  | .error z =>
    have e1 := listS_err h1
    rw [confS_err (z := z) (by rw [e1, listS_error, listS_error]), closeS_error _ (rdList_err h1)]; rfl
  | .ok (l1, s1) =>
    have e1 := listS_ok h1
    simp only []
    match h2 : rdList 9 s1 with
    | .error z =>
      have e2 := listS_err h2
      rw [confS_err (z := z) (by rw [e1, e2, listS_error]), closeS_error _ (rdList_err h2)]; rfl
    | .ok (l2, s2) =>
      have e2 := listS_ok h2
      simp only []
      match h3 : rdList 9 s2 with
      | .error z =>
        have e3 := listS_err h3
        rw [confS_err (z := z) (by rw [e1, e2, e3]), closeS_error _ (rdList_err h3)]; rfl
      | .ok (l3, s3) =>
        have e3 := listS_ok h3
        have e4 : confS (.ok s) = (⟨ints l1, ints l2, ints l3⟩, if validB ⟨ints l1, ints l2, ints l3⟩ = true then .ok s3 else badS 8 (.ok s3)) := by
          unfold confS
          simp only [e1, e2, e3]
        rw [e4]
        simp only []
        by_cases hi : validB ⟨ints l1, ints l2, ints l3⟩ = true
        · rw [if_pos hi, if_pos hi]; exact closeS_ok _ _
        · rw [if_neg hi, if_neg hi, badS]; rw [closeS_error _ (by decide)]; rfl
end Go.Proofs.YtjlhlmnoomiblaaGreat
