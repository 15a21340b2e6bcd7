/-
  Plain laws of the plain readers: what is written comes back; both readers agree.
-/
import Derived.Test.YtkcllpbbjlbfaaaWm
namespace Go.Proofs.Ytkcllpbbjlbfaaa.Wm
set_option linter.unusedSimpArgs false
set_option linter.unusedVariables false

theorem rdNumAt_put (n : Nat) : ∀ (i a : Nat) (s : List UInt8), a + n * 2 ^ (7 * i) ≤ 1099511627775 → (0 < i → 0 < n) → rdNumAt i a (putNum n ++ s) = .ok (a + n * 2 ^ (7 * i), s) := by
  induction n using Nat.strongRecOn with
  | ind n ih =>
    intro i a s hle hpos
    have h5 : ¬ 5 < i := by
      intro h
      have hn := hpos (by omega)
      have h1 : 2 ^ 42 ≤ 2 ^ (7 * i) := Nat.pow_le_pow_right (by decide) (by omega)
      have h2 : 1 * 2 ^ (7 * i) ≤ n * 2 ^ (7 * i) := Nat.mul_le_mul_right _ hn
      have h3 : (2 : Nat) ^ 42 = 4398046511104 := by decide
      omega
    by_cases hn : n < 128
    · have e1 : (UInt8.ofNat n).toNat = n := by rw [UInt8.toNat_ofNat']; omega
      have e2 : (UInt8.ofNat n).toNat % 128 = n := by omega
      rw [putNum_small hn, List.singleton_append, rdNumAt, e2, if_neg, if_pos (by omega)]
      rintro (⟨h, h0⟩ | h | h)
      · have := hpos h; omega
      · omega
      · exact h5 h
    · have e1 : (UInt8.ofNat (128 + n % 128)).toNat = 128 + n % 128 := by rw [UInt8.toNat_ofNat']; omega
      have e2 : (UInt8.ofNat (128 + n % 128)).toNat % 128 = n % 128 := by omega
      have hsum : a + n % 128 * 2 ^ (7 * i) + n / 128 * 2 ^ (7 * (i + 1)) = a + n * 2 ^ (7 * i) := by
        have hp : 2 ^ (7 * (i + 1)) = 128 * 2 ^ (7 * i) := by rw [show 7 * (i + 1) = 7 * i + 7 from by omega, Nat.pow_add, Nat.mul_comm]
        have hd : n % 128 + n / 128 * 128 = n := by omega
        rw [hp, ← Nat.mul_assoc, Nat.add_assoc, ← Nat.add_mul, hd]
      have hrec := ih (n / 128) (by omega) (i + 1) (a + n % 128 * 2 ^ (7 * i)) s (by rw [hsum]; exact hle) (fun _ => by omega)
      rw [putNum_big hn, List.cons_append, rdNumAt, e2, if_neg, if_neg (by omega), hrec, hsum]
      rintro (⟨h, h0⟩ | h | h)
      · omega
      · have : n % 128 * 2 ^ (7 * i) ≤ n * 2 ^ (7 * i) := Nat.mul_le_mul_right _ (Nat.mod_le _ _)
        omega
      · exact h5 h
theorem rdNum_put {n : Nat} (h : n ≤ 1099511627775) (s : List UInt8) : rdNum (putNum n ++ s) = .ok (n, s) := by
  have := rdNumAt_put n 0 0 s (by simpa using h) (fun h => absurd h (Nat.lt_irrefl 0))
  simpa [rdNum] using this
theorem rdTake_append (a s : List UInt8) : rdTake a.length (a ++ s) = .ok (a, s) := by simp [rdTake]
theorem rdUpTo_put {n most : Nat} (h : n ≤ 1099511627775) (hm : n ≤ most) (s : List UInt8) : rdUpTo most (putNum n ++ s) = .ok (n, s) := by
  rw [rdUpTo, rdNum_put h]
  simp only [if_neg (Nat.not_lt.2 hm)]
theorem rdText_put {most : Nat} (x : List UInt8) (h : x.length ≤ 1099511627775) (hm : x.length ≤ most) (s : List UInt8) : rdText most (putText x ++ s) = .ok (x, s) := by
  rw [rdText, putText, List.append_assoc, rdUpTo_put h hm]
  exact rdTake_append x s
theorem rdMany_put (l : List Nat) : ∀ (acc : List Nat) (s : List UInt8), (∀ n ∈ l, n ≤ 1099511627775) → rdMany l.length acc (l.flatMap putNum ++ s) = .ok (acc ++ l, s) := by
  induction l with
  | nil => intro acc s _; simp [rdMany]
  | cons n l ih =>
    intro acc s h
    rw [List.flatMap_cons, List.append_assoc, List.length_cons, rdMany, rdNum_put (h n (List.mem_cons_self ..))]
    simp only []
    rw [ih (acc ++ [n]) s (fun m hm => h m (List.mem_cons_of_mem _ hm))]
    simp

/-- what the plain reader's loop comes to -/
def manyS : Nat → List Nat → St → List Nat × St
  | 0, acc, σ => (acc, σ)
  | k + 1, acc, σ => manyS k (acc ++ [stepV 0 rdNum σ]) (stepS rdNum σ)
theorem manyS_error (k : Nat) : ∀ (acc : List Nat) (z : Int), (manyS k acc (.error z)).2 = .error z := by
  induction k with
  | zero => intro acc z; rfl
  | succ k ih => intro acc z; rw [manyS]; exact ih _ _
theorem manyS_ok (k : Nat) : ∀ (acc : List Nat) (s : List UInt8), match rdMany k acc s with
    | .ok (l, t) => manyS k acc (.ok s) = (l, .ok t)
    | .error z => (manyS k acc (.ok s)).2 = .error z := by
  induction k with
  | zero => intro acc s; rfl
  | succ k ih =>
    intro acc s
    match h : rdNum s with
    | .error z =>
      simp only [rdMany, h]
      rw [manyS]
      simp only [stepS, h, rstOf]
      exact manyS_error k _ z
    | .ok (x, t) =>
      simp only [rdMany, h, manyS, stepV, stepS, rvalOf, rstOf]
      exact ih _ _
theorem rdNumAt_err {i n : Nat} {s : List UInt8} {z : Int} (h : rdNumAt i n s = .error z) : z ≠ 0 := by
  induction s generalizing i n with
  | nil => simp [rdNumAt] at h; omega
  | cons c s ih =>
    rw [rdNumAt] at h
    split at h
    · cases h; decide
    · split at h
      · cases h
      · exact ih h
theorem rdNum_err {s : List UInt8} {z : Int} (h : rdNum s = .error z) : z ≠ 0 := rdNumAt_err h
theorem rdMany_err {k : Nat} : ∀ {acc : List Nat} {s : List UInt8} {z : Int}, rdMany k acc s = .error z → z ≠ 0 := by
  induction k with
  | zero => intro acc s z h; cases h
  | succ k ih =>
    intro acc s z h
    match h1 : rdNum s with
    | .error y =>
      simp only [rdMany, h1] at h
      cases h
      exact rdNum_err h1
    | .ok (x, t) =>
      simp only [rdMany, h1] at h
      exact ih h
theorem many_same (n : Nat) (s : List UInt8) :
    (match endS (manyS n [] (.ok s)).2 with | 0 => Except.ok (manyS n [] (.ok s)).1 | z => Except.error z) = full (rdMany n [] s) := by
  have h := manyS_ok n [] s
  match hm : rdMany n [] s with
  | .error z =>
    rw [hm] at h
    have hz := rdMany_err hm
    simp only [h, endS, full]
    try (split <;> first | rfl | (rename_i h0; exact absurd h0 hz))
  | .ok (l, t) =>
    rw [hm] at h
    simp only [h, full]
    cases t with
    | nil => rfl
    | cons c t => rfl

end Go.Proofs.Ytkcllpbbjlbfaaa.Wm
