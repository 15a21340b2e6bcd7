/-
  Plain mathematics of numbers and texts as bytes: no program in sight.
-/
import Derived.Test.YtnmlkoidmacinaaDoorRows
import Derived.Test.YtnmlkoidmacinaaDoorMm
namespace Go.Proofs.YtnmlkoidmacinaaDoor.Wm
set_option linter.unusedSimpArgs false

/-- a text as a value of the model -/
abbrev str (l : List UInt8) : Value := .string ⟨l.toArray⟩

/-- seven bits a byte, the lowest first -/
def putNum (n : Nat) : List UInt8 :=
  if n < 128 then [UInt8.ofNat n] else UInt8.ofNat (128 + n % 128) :: putNum (n / 128)
termination_by n
decreasing_by omega

@[go_sem] theorem ext_to (l : List UInt8) (n : Nat) : (ByteArray.mk l.toArray).extract 0 n = ⟨(l.take n).toArray⟩ := by
  rw [ByteArray.extract_mk]; simp
@[go_sem] theorem ext_from (l : List UInt8) (n : Nat) : (ByteArray.mk l.toArray).extract n l.length = ⟨(l.drop n).toArray⟩ := by
  rw [ByteArray.extract_mk]
  congr 2
  exact List.take_of_length_le (by simp)
@[go_sem] theorem bs_append (a b : Array UInt8) : (ByteArray.mk a ++ ByteArray.mk b) = ByteArray.mk (a ++ b) := by
  have h := ByteArray.mk_append_mk a.toList b.toList
  rw [← List.append_toArray] at h
  simpa only [Array.toArray_toList] using h
@[go_sem] theorem get_list (l : List UInt8) (k : Nat) (h : k < (ByteArray.mk l.toArray).size) : (ByteArray.mk l.toArray)[k]'h = l[k]'(by simpa [ByteArray.size] using h) := rfl
@[go_sem] theorem get_one (c : UInt8) (h : 0 < (ByteArray.mk #[c]).size) : (ByteArray.mk #[c])[0]'h = c := rfl

/-- what an or of two numbers that share no bit is -/
theorem i64_or_add (a m k : Nat) (ha : a < 2 ^ k) (hm : m % 2 ^ k = 0) (hs : a + m < 9223372036854775808) : bits .or .i64 (a : Int) (m : Int) = ((a + m : Nat) : Int) := by
  have e : a ||| m = a + m := by rw [Nat.or_comm, nat_join k m a hm ha]; omega
  have h1 : (BitVec.ofInt 64 (a : Int)).toNat = a := ofInt_u64 a (by omega)
  have h2 : (BitVec.ofInt 64 (m : Int)).toNat = m := ofInt_u64 m (by omega)
  show IntKind.i64.wrap ((BitVec.ofInt 64 (a : Int) ||| BitVec.ofInt 64 (m : Int)).toNat : Int) = _
  rw [BitVec.toNat_or, h1, h2, e, IntKind.wrap_i64]
  omega

def putText (s : List UInt8) : List UInt8 := putNum s.length ++ s

/-- what a reader gives: a value and what is left, or the number of an error -/
abbrev Res (α : Type) := Except Int (α × List UInt8)

def rdTake (n : Nat) (s : List UInt8) : Res (List UInt8) := if s.length < n then .error 3 else .ok (s.take n, s.drop n)

/-- a number's bytes from place i on, n so far -/
def rdNumAt (i : Nat) (n : Nat) : List UInt8 → Res Nat
  | [] => .error 3
  | c :: s =>
    if (0 < i ∧ c.toNat = 0) ∨ 1099511627775 < n + c.toNat % 128 * 2 ^ (7 * i) ∨ 5 < i then .error 1
    else if c.toNat < 128 then .ok (n + c.toNat % 128 * 2 ^ (7 * i), s)
    else rdNumAt (i + 1) (n + c.toNat % 128 * 2 ^ (7 * i)) s

def rdNum (s : List UInt8) : Res Nat := rdNumAt 0 0 s

def rdUpTo (most : Nat) (s : List UInt8) : Res Nat :=
  match rdNum s with
  | .error e => .error e
  | .ok (n, t) => if most < n then .error 4 else .ok (n, t)

def rdText (most : Nat) (s : List UInt8) : Res (List UInt8) :=
  match rdUpTo most s with
  | .error e => .error e
  | .ok (n, t) => rdTake n t

/-- the state of a reader that keeps its first error -/
abbrev St := Except Int (List UInt8)
def rvalOf {α : Type} (x0 : α) : Res α → α
  | .ok (x, _) => x
  | .error _ => x0
def rstOf {α : Type} : Res α → St
  | .ok (_, t) => .ok t
  | .error z => .error z
/-- what a reading comes to in a state: the value (x0 if there was an error), the next state -/
def stepV {α : Type} (x0 : α) (p : List UInt8 → Res α) : St → α
  | .error _ => x0
  | .ok s => rvalOf x0 (p s)
def stepS {α : Type} (p : List UInt8 → Res α) : St → St
  | .error z => .error z
  | .ok s => rstOf (p s)
def badS (z : Int) (σ : St) : St :=
  match σ with
  | .ok _ => .error z
  | .error y => .error y
/-- what stands at the end: the first error, or one if something is left -/
def endS (σ : St) : Int :=
  match σ with
  | .error y => y
  | .ok [] => 0
  | .ok (_ :: _) => 1
abbrev vNat (n : Nat) : Value := .int .i64 n
abbrev vStr (l : List UInt8) : Value := str l

theorem rdNumAt_le {i n : Nat} {s : List UInt8} {x : Nat} {t : List UInt8} (h : rdNumAt i n s = .ok (x, t)) : t.length ≤ s.length := by
  induction s generalizing i n with
  | nil => simp [rdNumAt] at h
  | cons c s ih =>
    rw [rdNumAt] at h
    split at h
    · cases h
    · split at h
      · cases h; simp
      · have := ih h; simp; omega
theorem rdNum_le {s : List UInt8} {x : Nat} {t : List UInt8} (h : rdNum s = .ok (x, t)) : t.length ≤ s.length := rdNumAt_le h
theorem rdNumAt_lt {i n : Nat} {s : List UInt8} {x : Nat} {t : List UInt8} (h : rdNumAt i n s = .ok (x, t)) : x ≤ 1099511627775 := by
  induction s generalizing i n with
  | nil => simp [rdNumAt] at h
  | cons c s ih =>
    rw [rdNumAt] at h
    split at h
    · cases h
    · rename_i hb
      split at h
      · cases h
        exact Nat.le_of_not_lt (fun hl => hb (Or.inr (Or.inl hl)))
      · exact ih h
theorem rdNum_lt {s : List UInt8} {x : Nat} {t : List UInt8} (h : rdNum s = .ok (x, t)) : x ≤ 1099511627775 := rdNumAt_lt h


theorem stepV_upTo (most : Nat) (σ : St) : stepV 0 (rdUpTo most) σ = if most < stepV 0 rdNum σ then 0 else stepV 0 rdNum σ := by
  cases σ with
  | error z => simp [stepV]
  | ok s =>
    match h : rdNum s with
    | .error z => simp [stepV, rdUpTo, h, rvalOf]
    | .ok (x, t) => by_cases hc : most < x <;> simp [stepV, rdUpTo, h, hc, rvalOf]
theorem stepS_upTo (most : Nat) (σ : St) : stepS (rdUpTo most) σ = if most < stepV 0 rdNum σ then badS 4 (stepS rdNum σ) else stepS rdNum σ := by
  cases σ with
  | error z => simp [stepV, stepS]
  | ok s =>
    match h : rdNum s with
    | .error z => simp [stepV, stepS, rdUpTo, h, rvalOf, rstOf]
    | .ok (x, t) => by_cases hc : most < x <;> simp [stepV, stepS, rdUpTo, h, hc, rvalOf, rstOf, badS]
theorem stepV_text (most : Nat) (σ : St) : stepV [] (rdText most) σ = stepV [] (rdTake (stepV 0 (rdUpTo most) σ)) (stepS (rdUpTo most) σ) := by
  cases σ with
  | error z => simp [stepV, stepS]
  | ok s =>
    match h : rdUpTo most s with
    | .error z => simp [stepV, stepS, rdText, h, rvalOf, rstOf]
    | .ok (x, t) => simp [stepV, stepS, rdText, h, rvalOf, rstOf]
theorem stepS_text (most : Nat) (σ : St) : stepS (rdText most) σ = stepS (rdTake (stepV 0 (rdUpTo most) σ)) (stepS (rdUpTo most) σ) := by
  cases σ with
  | error z => simp [stepS]
  | ok s =>
    match h : rdUpTo most s with
    | .error z => simp [stepV, stepS, rdText, h, rstOf]
    | .ok (x, t) => simp [stepV, stepS, rdText, h, rvalOf, rstOf]


theorem putNum_small {n : Nat} (h : n < 128) : putNum n = [UInt8.ofNat n] := by rw [putNum, if_pos h]
theorem putNum_big {n : Nat} (h : ¬ n < 128) : putNum n = UInt8.ofNat (128 + n % 128) :: putNum (n / 128) := by rw [putNum, if_neg h]
theorem putNum_len (k : Nat) : ∀ n, n < 128 ^ (k + 1) → (putNum n).length ≤ k + 1 := by
  induction k with
  | zero => intro n h; rw [putNum_small (by simpa using h)]; simp
  | succ k ih =>
    intro n h
    by_cases hn : n < 128
    · rw [putNum_small hn]; simp
    · rw [putNum_big hn]
      have := ih (n / 128) (by rw [Nat.div_lt_iff_lt_mul (by decide)]; rw [Nat.pow_succ] at h; exact h)
      simp; omega
theorem putNum_len10 {n : Nat} (h : n < 9223372036854775808) : (putNum n).length ≤ 9 := putNum_len 8 n (Nat.lt_of_lt_of_le h (by decide))
/-- a byte as a value of the model -/
abbrev bval (c : UInt8) : Value := .int .u8 c.toNat
theorem bval_ofNat (n : Nat) (h : n < 256) : bval (UInt8.ofNat n) = .int .u8 n := by
  unfold bval; rw [UInt8.toNat_ofNat']; congr 2; omega


/-- so many numbers, behind those that are there -/
def rdMany : Nat → List Nat → List UInt8 → Res (List Nat)
  | 0, acc, s => .ok (acc, s)
  | k + 1, acc, s =>
    match rdNum s with
    | .error z => .error z
    | .ok (x, t) => rdMany k (acc ++ [x]) t

/-- all bytes: what a reading gives, if nothing is left -/
def full {α : Type} (r : Res α) : Except Int α :=
  match r with
  | .error z => .error z
  | .ok (x, []) => .ok x
  | .ok (_, _ :: _) => .error 1

theorem rdTake_le {n : Nat} {s x t : List UInt8} (h : rdTake n s = .ok (x, t)) : x.length ≤ s.length ∧ t.length ≤ s.length ∧ x.length ≤ n := by
  unfold rdTake at h
  split at h
  · cases h
  · cases h; simp; omega
theorem rdUpTo_le {most : Nat} {s : List UInt8} {n : Nat} {t : List UInt8} (h : rdUpTo most s = .ok (n, t)) : n ≤ most ∧ t.length ≤ s.length := by
  unfold rdUpTo at h
  match h1 : rdNum s with
  | .error z => rw [h1] at h; cases h
  | .ok (m, u) =>
    rw [h1] at h
    simp only [] at h
    split at h
    · cases h
    · cases h; exact ⟨by omega, rdNum_le h1⟩
theorem rdText_le2 {most : Nat} {s x t : List UInt8} (h : rdText most s = .ok (x, t)) : x.length ≤ s.length ∧ t.length ≤ s.length ∧ x.length ≤ most := by
  unfold rdText at h
  match h1 : rdUpTo most s with
  | .error z => rw [h1] at h; cases h
  | .ok (m, u) =>
    rw [h1] at h
    have h2 := rdUpTo_le h1
    have h3 := rdTake_le h
    omega
theorem rdText_le {most : Nat} {s x t : List UInt8} (h : rdText most s = .ok (x, t)) : x.length ≤ s.length := (rdText_le2 h).1

end Go.Proofs.YtnmlkoidmacinaaDoor.Wm
