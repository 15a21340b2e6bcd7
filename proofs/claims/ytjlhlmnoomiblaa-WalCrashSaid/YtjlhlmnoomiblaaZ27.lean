/-
  Reading entries and configurations, the document's way. Reading entries and configurations: both ways agree (plain). Reading snapshots, the document's way; both ways agree.
-/
import Derived.Test.YtjlhlmnoomiblaaZ16
import Derived.Test.YtjlhlmnoomiblaaZ11
import Derived.Deep.QuietTactic
import Derived.BigQuiet
import Derived.Test.YtjlhlmnoomiblaaZ21
import Derived.Test.YtjlhlmnoomiblaaZ25
namespace Go.Proofs.Ytjlhlmnoomiblaa
open Go.RowKit Wm Mm
set_option linter.unusedVariables false

def loopS : Nat → List Nat → St → List Nat × St
  | 0, acc, σ => (acc, σ)
  | _ + 1, acc, .error z => (acc, .error z)
  | k + 1, acc, .ok s => loopS k (acc ++ [stepV 0 rdNum (.ok s)]) (stepS rdNum (.ok s))
def listS (most : Nat) (σ : St) : List Nat × St := loopS (stepV 0 (rdUpTo most) σ) [] (stepS (rdUpTo most) σ)
theorem stepV_upTo (most : Nat) (σ : St) : stepV 0 (rdUpTo most) σ ≤ most := by
  cases σ with
  | error z => exact Nat.zero_le _
  | ok s =>
    simp only [stepV]
    match h : rdUpTo most s with
    | .error z => exact Nat.zero_le _
    | .ok (n, t) => exact (rdUpTo_le h).1

def entS (σ : St) : Ent × St :=
  let i := stepV 0 rdNum σ
  let σ1 := stepS rdNum σ
  let t := stepV 0 rdNum σ1
  let σ2 := stepS rdNum σ1
  let k := stepV 0 rdNum σ2
  let σ3 := stepS rdNum σ2
  let d := stepV [] (rdText 256) σ3
  let σ4 := stepS (rdText 256) σ3
  (⟨i, t, k, d⟩, if isEntry i t k d = true then σ4 else badS 6 σ4)
def confS (σ : St) : Conf × St :=
  let l1 := listS 9 σ
  let l2 := listS 9 l1.2
  let l3 := listS 9 l2.2
  (⟨ints l1.1, ints l2.1, ints l3.1⟩, if validB ⟨ints l1.1, ints l2.1, ints l3.1⟩ = true then l3.2 else badS 8 l3.2)
end Go.Proofs.Ytjlhlmnoomiblaa

namespace Go.Proofs.Ytjlhlmnoomiblaa
open Go.RowKit Wm Mm
set_option linter.unusedVariables false

theorem entS_error (z : Int) : (entS (.error z)).2 = .error z := by
  unfold entS
  simp only [stepV, stepS, badS]
  exact ite_self _
theorem ent_same (s : List UInt8) : closeS (entS (.ok s)).1 (entS (.ok s)).2 = full (rdEnt s) := by
  unfold entS rdEnt
  match h1 : rdNum s with
  | .error z =>
    simp only [stepS, stepV, h1, rvalOf, rstOf, badS, ite_self]
    rw [closeS_error _ (rdNum_err h1)]; rfl
  | .ok (i, s1) =>
    simp only [stepS, stepV, h1, rvalOf, rstOf]
    match h2 : rdNum s1 with
    | .error z =>
      simp only [badS, ite_self]
      rw [closeS_error _ (rdNum_err h2)]; rfl
    | .ok (t, s2) =>
      simp only []
      match h3 : rdNum s2 with
      | .error z =>
        simp only [badS, ite_self]
        rw [closeS_error _ (rdNum_err h3)]; rfl
      | .ok (k, s3) =>
        simp only []
        match h4 : rdText 256 s3 with
        | .error z =>
          simp only [badS, ite_self]
          rw [closeS_error _ (rdText_err h4)]; rfl
        | .ok (d, s4) =>
          simp only []
          by_cases hi : isEntry i t k d = true
          · rw [if_pos hi, if_pos hi]; exact closeS_ok _ _
          · rw [if_neg hi, if_neg hi, badS]; rw [closeS_error _ (by decide)]; rfl

theorem loopS_error (k : Nat) (acc : List Nat) (z : Int) : (loopS k acc (.error z)).2 = .error z := by
  cases k <;> rfl
theorem loopS_same (k : Nat) : ∀ (acc : List Nat) (s : List UInt8), (∀ l t, rdMany k acc s = .ok (l, t) → loopS k acc (.ok s) = (l, .ok t)) ∧ (∀ z, rdMany k acc s = .error z → (loopS k acc (.ok s)).2 = .error z) := by
  induction k with
  | zero =>
    intro acc s
    refine ⟨fun l t h => ?_, fun z h => ?_⟩
    · simp only [rdMany] at h; cases h; rfl
    · simp only [rdMany] at h; cases h
  | succ k ih =>
    intro acc s
    simp only [rdMany, loopS]
    match h1 : rdNum s with
    | .error z =>
      simp only [stepS, stepV, h1, rvalOf, rstOf]
      refine ⟨fun l t h => (by cases h), fun y h => ?_⟩
      cases h
      exact loopS_error _ _ _
    | .ok (x, t) =>
      simp only [stepS, stepV, h1, rvalOf, rstOf]
      exact ih _ _
theorem rdMany_err (k : Nat) : ∀ {acc : List Nat} {s : List UInt8} {z : Int}, rdMany k acc s = .error z → z ≠ 0 := by
  induction k with
  | zero => intro acc s z h; simp only [rdMany] at h; cases h
  | succ k ih =>
    intro acc s z h
    simp only [rdMany] at h
    match h1 : rdNum s with
    | .error y => rw [h1] at h; cases h; exact rdNum_err h1
    | .ok (x, t) => rw [h1] at h; exact ih h
theorem rdList_err {most : Nat} {s : List UInt8} {z : Int} (h : rdList most s = .error z) : z ≠ 0 := by
  unfold rdList at h
  match h1 : rdUpTo most s with
  | .error y => rw [h1] at h; cases h; exact rdUpTo_err h1
  | .ok (x, t) => rw [h1] at h; exact rdMany_err _ h
theorem listS_error (most : Nat) (z : Int) : (listS most (.error z)).2 = .error z := rfl
theorem listS_ok {most : Nat} {s : List UInt8} {l : List Nat} {t : List UInt8} (h : rdList most s = .ok (l, t)) : listS most (.ok s) = (l, .ok t) := by
  unfold rdList at h
  unfold listS
  match h1 : rdUpTo most s with
  | .error y => rw [h1] at h; cases h
  | .ok (x, u) =>
    rw [h1] at h
    simp only [stepS, stepV, h1, rvalOf, rstOf]
    exact (loopS_same x [] u).1 l t h
theorem listS_err {most : Nat} {s : List UInt8} {z : Int} (h : rdList most s = .error z) : (listS most (.ok s)).2 = .error z := by
  unfold rdList at h
  unfold listS
  match h1 : rdUpTo most s with
  | .error y => rw [h1] at h; cases h; simp only [stepS, stepV, h1, rvalOf, rstOf]; rfl
  | .ok (x, u) =>
    rw [h1] at h
    simp only [stepS, stepV, h1, rvalOf, rstOf]
    exact (loopS_same x [] u).2 z h
theorem confS_of {σ : St} : (confS σ).2 = if validB (confS σ).1 = true then (listS 9 (listS 9 (listS 9 σ).2).2).2 else badS 8 (listS 9 (listS 9 (listS 9 σ).2).2).2 := rfl
theorem confS_err {σ : St} {z : Int} (h : (listS 9 (listS 9 (listS 9 σ).2).2).2 = .error z) : (confS σ).2 = .error z := by
  rw [confS_of, h]
  exact ite_self _
theorem conf_same (s : List UInt8) : closeS (confS (.ok s)).1 (confS (.ok s)).2 = full (rdConf s) := by
  unfold rdConf
  match h1 : rdList 9 s with
  | .error z =>
    have e1 := listS_err h1
    rw [confS_err (z := z) (by rw [e1, listS_error, listS_error]), closeS_error _ (rdList_err h1)]; rfl
  | .ok (l1, s1) =>
    have e1 := listS_ok h1
    simp only []
    match h2 : rdList 9 s1 with
    | .error z =>
      have e2 := listS_err h2
      rw [confS_err (z := z) (by rw [e1, e2, listS_error]), closeS_error _ (rdList_err h2)]; rfl
    | .ok (l2, s2) =>
      have e2 := listS_ok h2
      simp only []
      match h3 : rdList 9 s2 with
      | .error z =>
        have e3 := listS_err h3
        rw [confS_err (z := z) (by rw [e1, e2, e3]), closeS_error _ (rdList_err h3)]; rfl
      | .ok (l3, s3) =>
        have e3 := listS_ok h3
        have e4 : confS (.ok s) = (⟨ints l1, ints l2, ints l3⟩, if validB ⟨ints l1, ints l2, ints l3⟩ = true then .ok s3 else badS 8 (.ok s3)) := by
          unfold confS
          simp only [e1, e2, e3]
        rw [e4]
        simp only []
        by_cases hi : validB ⟨ints l1, ints l2, ints l3⟩ = true
        · rw [if_pos hi, if_pos hi]; exact closeS_ok _ _
        · rw [if_neg hi, if_neg hi, badS]; rw [closeS_error _ (by decide)]; rfl
end Go.Proofs.Ytjlhlmnoomiblaa

namespace Go.Proofs.Ytjlhlmnoomiblaa
open Go.RowKit Wm Mm
set_option linter.unusedVariables false

def snapS (σ : St) : Snap × St :=
  let i := stepV 0 rdNum σ
  let σ1 := stepS rdNum σ
  let t := stepV 0 rdNum σ1
  let σ2 := stepS rdNum σ1
  let k := confS σ2
  let d := stepV [] (rdText 8192) k.2
  let σ4 := stepS (rdText 8192) k.2
  (⟨i, t, k.1, d⟩, if isSnap i t k.1 d = true then σ4 else badS 6 σ4)

theorem rdConf_err {s : List UInt8} {z : Int} (h : rdConf s = .error z) : z ≠ 0 := by
  unfold rdConf at h
  match h1 : rdList 9 s with
  | .error y => rw [h1] at h; cases h; exact rdList_err h1
  | .ok (l1, s1) =>
    rw [h1] at h
    simp only [] at h
    match h2 : rdList 9 s1 with
    | .error y => rw [h2] at h; cases h; exact rdList_err h2
    | .ok (l2, s2) =>
      rw [h2] at h
      simp only [] at h
      match h3 : rdList 9 s2 with
      | .error y => rw [h3] at h; cases h; exact rdList_err h3
      | .ok (l3, s3) =>
        rw [h3] at h
        simp only [] at h
        split at h
        · cases h
        · cases h; decide
theorem confS_error (z : Int) : (confS (.error z)).2 = .error z := confS_err (by rw [listS_error, listS_error, listS_error])
/-- what the document's reader of configurations comes to -/
theorem confS_same (s : List UInt8) : (∀ c t, rdConf s = .ok (c, t) → confS (.ok s) = (c, .ok t)) ∧ (∀ z, rdConf s = .error z → (confS (.ok s)).2 = .error z) := by
  unfold rdConf
  match h1 : rdList 9 s with
  | .error z =>
    have e1 := listS_err h1
    refine ⟨fun c t h => (by cases h), fun y h => ?_⟩
    cases h
    exact confS_err (by rw [e1, listS_error, listS_error])
  | .ok (l1, s1) =>
    have e1 := listS_ok h1
    simp only []
    match h2 : rdList 9 s1 with
    | .error z =>
      have e2 := listS_err h2
      refine ⟨fun c t h => (by cases h), fun y h => ?_⟩
      cases h
      exact confS_err (by rw [e1, e2, listS_error])
    | .ok (l2, s2) =>
      have e2 := listS_ok h2
      simp only []
      match h3 : rdList 9 s2 with
      | .error z =>
        have e3 := listS_err h3
        refine ⟨fun c t h => (by cases h), fun y h => ?_⟩
        cases h
        exact confS_err (by rw [e1, e2, e3])
      | .ok (l3, s3) =>
        have e3 := listS_ok h3
        have e4 : confS (.ok s) = (⟨ints l1, ints l2, ints l3⟩, if validB ⟨ints l1, ints l2, ints l3⟩ = true then .ok s3 else badS 8 (.ok s3)) := by
          unfold confS
          simp only [e1, e2, e3]
        rw [e4]
        simp only []
        by_cases hi : validB ⟨ints l1, ints l2, ints l3⟩ = true
        · rw [if_pos hi, if_pos hi]
          refine ⟨fun c t h => (by cases h; rfl), fun z h => (by cases h)⟩
        · rw [if_neg hi, if_neg hi]
          refine ⟨fun c t h => (by cases h), fun z h => (by cases h; rfl)⟩
theorem snapS_error (z : Int) : (snapS (.error z)).2 = .error z := by
  have h := confS_error z
  unfold snapS
  simp only [stepS]
  rw [h]
  exact ite_self _
theorem snapS_same (s : List UInt8) : (∀ c t, rdSnap s = .ok (c, t) → snapS (.ok s) = (c, .ok t)) ∧ (∀ z, rdSnap s = .error z → (snapS (.ok s)).2 = .error z ∧ z ≠ 0) := by
  unfold rdSnap snapS
  match h1 : rdNum s with
  | .error z =>
    refine ⟨fun c t h => (by cases h), fun y h => ?_⟩
    cases h
    refine ⟨?_, rdNum_err h1⟩
    have hc := confS_error z
    simp only [stepS, stepV, h1, rvalOf, rstOf, hc, badS, ite_self]
  | .ok (i, s1) =>
    simp only [stepS, stepV, h1, rvalOf, rstOf]
    match h2 : rdNum s1 with
    | .error z =>
      refine ⟨fun c t h => (by cases h), fun y h => ?_⟩
      cases h
      refine ⟨?_, rdNum_err h2⟩
      have hc := confS_error z
      simp only [hc, badS, ite_self]
    | .ok (t, s2) =>
      simp only []
      match h3 : rdConf s2 with
      | .error z =>
        refine ⟨fun c t h => (by cases h), fun y h => ?_⟩
        cases h
        refine ⟨?_, rdConf_err h3⟩
        have hc := (confS_same s2).2 z h3
        simp only [hc, badS, ite_self]
      | .ok (c, s3) =>
        have hc := (confS_same s2).1 c s3 h3
        simp only [hc]
        match h4 : rdText 8192 s3 with
        | .error z =>
          refine ⟨fun c t h => (by cases h), fun y h => ?_⟩
          cases h
          refine ⟨?_, rdText_err h4⟩
          simp only [badS, ite_self]
        | .ok (d, s4) =>
          simp only []
          by_cases hi : isSnap i t c d = true
          · rw [if_pos hi, if_pos hi]
            refine ⟨fun c t h => (by cases h; rfl), fun z h => (by cases h)⟩
          · rw [if_neg hi, if_neg hi]
            refine ⟨fun c t h => (by cases h), fun z h => (by cases h; exact ⟨rfl, by decide⟩)⟩
theorem close_same {α : Type} (x : α × St) (r : Res α) (h1 : ∀ c t, r = .ok (c, t) → x = (c, .ok t)) (h2 : ∀ z, r = .error z → x.2 = .error z ∧ z ≠ 0) : closeS x.1 x.2 = full r := by
  match r, h1, h2 with
  | .ok (c, t), h1, _ => rw [h1 c t rfl]; exact closeS_ok _ _
  | .error z, _, h2 => rw [(h2 z rfl).1, closeS_error _ (h2 z rfl).2]; rfl
theorem snap_same (s : List UInt8) : closeS (snapS (.ok s)).1 (snapS (.ok s)).2 = full (rdSnap s) := close_same _ _ (snapS_same s).1 (snapS_same s).2
end Go.Proofs.Ytjlhlmnoomiblaa
