/-
  Reading requests, the document's way: the plain law.
-/
import Derived.Test.YtkcllpbbjlbfaaaRqh
import Derived.Test.YtkcllpbbjlbfaaaWq
namespace Go.Proofs.Ytkcllpbbjlbfaaa
open Go.RowKit Wm Mm
set_option linter.unusedVariables false
set_option linter.unusedSimpArgs false

def refCmd (c n t : Nat) (σ3 : St) : Req × St :=
  if c = 0 then (⟨c, n, ⟨0, [], [], 0⟩, t⟩, σ3)
  else (⟨c, n, ⟨stepV 0 rdNum σ3, stepV [] (rdText 16) (stepS rdNum σ3), stepV [] (rdText 64) (stepS (rdText 16) (stepS rdNum σ3)), stepV 0 rdNum (stepS (rdText 64) (stepS (rdText 16) (stepS rdNum σ3)))⟩, t⟩,
    if isCommand ((stepV 0 rdNum σ3 : Nat) : Int) (stepV [] (rdText 16) (stepS rdNum σ3)) (stepV [] (rdText 64) (stepS (rdText 16) (stepS rdNum σ3))) ((stepV 0 rdNum (stepS (rdText 64) (stepS (rdText 16) (stepS rdNum σ3))) : Nat) : Int) = true
    then stepS rdNum (stepS (rdText 64) (stepS (rdText 16) (stepS rdNum σ3))) else badS 5 (stepS rdNum (stepS (rdText 64) (stepS (rdText 16) (stepS rdNum σ3)))))
def refRun (s : List UInt8) : Req × St :=
  refCmd (stepV 0 rdNum (.ok s)) (stepV 0 rdNum (stepS rdNum (.ok s))) (stepV 0 rdNum (stepS rdNum (stepS rdNum (.ok s)))) (stepS rdNum (stepS rdNum (stepS rdNum (.ok s))))

theorem refCmd_error (c n t : Nat) (z : Int) : (refCmd c n t (.error z)).2 = .error z := by
  unfold refCmd
  split
  · rfl
  · simp only [stepS, badS]
    exact ite_self _
theorem rdTake_err {n : Nat} {s : List UInt8} {z : Int} (h : rdTake n s = .error z) : z ≠ 0 := by
  unfold rdTake at h
  split at h
  · cases h; decide
  · cases h
theorem rdUpTo_err {n : Nat} {s : List UInt8} {z : Int} (h : rdUpTo n s = .error z) : z ≠ 0 := by
  unfold rdUpTo at h
  match h1 : rdNum s with
  | .error y => rw [h1] at h; cases h; exact rdNum_err h1
  | .ok (x, t) =>
    rw [h1] at h
    simp only [] at h
    split at h
    · cases h; decide
    · cases h
theorem rdText_err {n : Nat} {s : List UInt8} {z : Int} (h : rdText n s = .error z) : z ≠ 0 := by
  unfold rdText at h
  match h1 : rdUpTo n s with
  | .error y => rw [h1] at h; cases h; exact rdUpTo_err h1
  | .ok (x, t) => rw [h1] at h; exact rdTake_err h
/-- what the state and the value come to -/
def closeS {α : Type} (x : α) (σ : St) : Except Int α := match endS σ with | 0 => .ok x | z => .error z
theorem closeS_error {α : Type} (x : α) {z : Int} (h : z ≠ 0) : closeS x (.error z) = .error z := by
  unfold closeS endS
  simp only []
theorem closeS_ok {α : Type} (x : α) (t : List UInt8) : closeS x (.ok t) = full (.ok (x, t)) := by
  cases t <;> rfl

theorem ref_same (s : List UInt8) : closeS (refRun s).1 (refRun s).2 = full (rdReq s) := by
  unfold refRun rdReq
  match h1 : rdNum s with
  | .error z =>
    simp only [stepS, stepV, h1, rvalOf, rstOf]
    rw [refCmd_error, closeS_error _ (rdNum_err h1)]; rfl
  | .ok (c, s1) =>
    simp only [stepS, stepV, h1, rvalOf, rstOf]
    match h2 : rdNum s1 with
    | .error z =>
      simp only []
      rw [refCmd_error, closeS_error _ (rdNum_err h2)]; rfl
    | .ok (n, s2) =>
      simp only []
      match h3 : rdNum s2 with
      | .error z =>
        simp only []
        rw [refCmd_error, closeS_error _ (rdNum_err h3)]; rfl
      | .ok (t, s3) =>
        simp only []
        unfold refCmd
        by_cases hc : c = 0
        · rw [if_pos hc, if_pos hc]; exact closeS_ok _ _
        · rw [if_neg hc, if_neg hc]
          unfold rdCmd
          match h4 : rdNum s3 with
          | .error z =>
            simp only [stepS, stepV, h4, rvalOf, rstOf, badS, ite_self]
            rw [closeS_error _ (rdNum_err h4)]; rfl
          | .ok (k, s4) =>
            simp only [stepS, stepV, h4, rvalOf, rstOf]
            match h5 : rdText 16 s4 with
            | .error z =>
              simp only [badS, ite_self]
              rw [closeS_error _ (rdText_err h5)]; rfl
            | .ok (key, s5) =>
              simp only []
              match h6 : rdText 64 s5 with
              | .error z =>
                simp only [badS, ite_self]
                rw [closeS_error _ (rdText_err h6)]; rfl
              | .ok (val, s6) =>
                simp only []
                match h7 : rdNum s6 with
                | .error z =>
                  simp only [badS, ite_self]
                  rw [closeS_error _ (rdNum_err h7)]; rfl
                | .ok (i, s7) =>
                  simp only []
                  by_cases hi : isCommand k key val i = true
                  · rw [if_pos hi, if_pos hi]; exact closeS_ok _ _
                  · rw [if_neg hi, if_neg hi, badS]; rw [closeS_error _ (by decide)]; rfl
end Go.Proofs.Ytkcllpbbjlbfaaa
