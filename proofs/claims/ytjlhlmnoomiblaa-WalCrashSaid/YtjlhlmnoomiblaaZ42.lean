/-
  Plain: a burst of up to four bytes that is not nothing changes the sum. Plain: whole frames come back, torn ones are short, turned ones have another sum.
-/
import Derived.Test.YtjlhlmnoomiblaaZ20
import Derived.Test.YtjlhlmnoomiblaaZ13
namespace Go.Proofs.Ytjlhlmnoomiblaa.Wm
set_option linter.unusedSimpArgs false
set_option linter.unusedVariables false

theorem xor_mod2 (a b : Nat) : (a ^^^ b) % 2 = (a % 2 + b % 2) % 2 := by
  have h := Nat.xor_mod_two_pow (a := a) (b := b) (n := 1)
  simp only [Nat.pow_one] at h
  rw [h]
  rcases Nat.mod_two_eq_zero_or_one a with h1 | h1 <;> rcases Nat.mod_two_eq_zero_or_one b with h2 | h2 <;> rw [h1, h2] <;> rfl
theorem crc1_xor (a b : Nat) : crc1 (a ^^^ b) = crc1 a ^^^ crc1 b := by
  unfold crc1
  rw [xor_mod2, xor_div2]
  rcases Nat.mod_two_eq_zero_or_one a with h1 | h1 <;> rcases Nat.mod_two_eq_zero_or_one b with h2 | h2
  · simp [h1, h2]
  · simp [h1, h2, Nat.xor_assoc]
  · simp only [h1, h2]
    simp only [Nat.reduceAdd, Nat.reduceMod, if_true, Nat.zero_ne_one, if_false]
    rw [Nat.xor_assoc, Nat.xor_comm (b / 2), ← Nat.xor_assoc]
  · simp only [h1, h2]
    simp only [Nat.reduceAdd, Nat.reduceMod, if_true, Nat.zero_ne_one, if_false]
    rw [Nat.xor_assoc, Nat.xor_comm 2197175160, Nat.xor_assoc, Nat.xor_self, Nat.xor_zero]
theorem crcN_xor (n : Nat) : ∀ a b, crcN n (a ^^^ b) = crcN n a ^^^ crcN n b := by
  induction n with
  | zero => intro a b; rfl
  | succ n ih => intro a b; rw [crcN_succ, crcN_succ, crcN_succ, crc1_xor, ih]
theorem crc1_even (x : Nat) : crc1 (2 * x) = x := by
  unfold crc1
  rw [if_neg (by omega)]; omega
theorem crcN_shift (n : Nat) : ∀ x, crcN n (2 ^ n * x) = x := by
  induction n with
  | zero => intro x; simp [crcN]
  | succ n ih => intro x; rw [crcN_succ, Nat.pow_succ, Nat.mul_comm (2 ^ n) 2, Nat.mul_assoc, crc1_even, ih]
theorem crc1_ne {c : Nat} (h : c < 4294967296) (h0 : c ≠ 0) : crc1 c ≠ 0 := by
  unfold crc1
  split
  · intro e
    have h1 : c / 2 ^^^ 2197175160 ^^^ 2197175160 = 0 ^^^ 2197175160 := by rw [e]
    rw [Nat.xor_assoc, Nat.xor_self, Nat.xor_zero, Nat.zero_xor] at h1
    omega
  · omega
theorem crcN_ne (n : Nat) : ∀ {c : Nat}, c < 4294967296 → c ≠ 0 → crcN n c ≠ 0 := by
  induction n with
  | zero => intro c _ h; exact h
  | succ n ih => intro c h h0; exact ih (crc1_lt h) (crc1_ne h h0)
theorem crcN_zero0 (n : Nat) : crcN n 0 = 0 := by
  have := crcN_xor n 0 0
  simpa using this
theorem crcN_add (m : Nat) : ∀ (n c : Nat), crcN n (crcN m c) = crcN (m + n) c := by
  induction m with
  | zero => intro n c; rw [Nat.zero_add]; rfl
  | succ m ih => intro n c; rw [crcN_succ, ih, show m + 1 + n = (m + n) + 1 from by omega, crcN_succ]

/-- the bytes of a burst, as one number -/
def burst : List UInt8 → Nat
  | [] => 0
  | m :: ms => m.toNat ^^^ 256 * burst ms
def xorL : List UInt8 → List UInt8 → List UInt8
  | b :: l, m :: ms => (b ^^^ m) :: xorL l ms
  | l, _ => l
theorem xorL_nil (l : List UInt8) : xorL l [] = l := by cases l <;> rfl
theorem xorL_len (l ms : List UInt8) : (xorL l ms).length = l.length := by
  induction l generalizing ms with
  | nil => cases ms <;> rfl
  | cons b l ih => cases ms with
    | nil => rfl
    | cons m ms => simp [xorL, ih]
theorem burst_parts (m x : Nat) (hm : m < 256) : m ^^^ 256 * x = m + 256 * x := by
  have h1 : (m ^^^ 256 * x) % 256 = m := by
    have := Nat.xor_mod_two_pow (a := m) (b := 256 * x) (n := 8)
    simp only [show 2 ^ 8 = 256 from rfl] at this
    rw [this, Nat.mul_mod_right, Nat.xor_zero, Nat.mod_eq_of_lt hm]
  have h2 : (m ^^^ 256 * x) / 256 = x := by
    have := Nat.shiftRight_xor_distrib (a := m) (b := 256 * x) (i := 8)
    simp only [Nat.shiftRight_eq_div_pow, show 2 ^ 8 = 256 from rfl] at this
    rw [this, Nat.div_eq_of_lt hm, Nat.zero_xor, Nat.mul_div_cancel_left _ (by decide)]
  omega
theorem burst_ne {ms : List UInt8} (h : ∃ m ∈ ms, m ≠ 0) : burst ms ≠ 0 := by
  induction ms with
  | nil => obtain ⟨m, hm, _⟩ := h; cases hm
  | cons m ms ih =>
    have hlt := m.toNat_lt
    rw [burst, burst_parts _ _ hlt]
    obtain ⟨x, hx, h0⟩ := h
    cases hx with
    | head =>
      have : m.toNat ≠ 0 := fun e => h0 (by rw [← UInt8.toNat_inj]; simpa using e)
      omega
    | tail _ hx =>
      have := ih ⟨x, hx, h0⟩
      omega
theorem burst_lt (ms : List UInt8) : burst ms < 256 ^ ms.length := by
  induction ms with
  | nil => simp [burst]
  | cons m ms ih =>
    have hlt := m.toNat_lt
    rw [burst, burst_parts _ _ hlt, List.length_cons, Nat.pow_succ]
    omega
theorem crcAll_burst (l : List UInt8) : ∀ (ms : List UInt8) (c d : Nat), ms.length ≤ l.length → crcAll (c ^^^ d) (xorL l ms) = crcAll c l ^^^ crcN (8 * l.length) (d ^^^ burst ms) := by
  induction l with
  | nil =>
    intro ms c d h
    obtain rfl : ms = [] := by cases ms with | nil => rfl | cons _ _ => simp at h
    rw [List.length_nil, Nat.mul_zero, crcN_zero, xorL_nil, crcAll_nil, crcAll_nil, burst, Nat.xor_zero]
  | cons b l ih =>
    intro ms c d h
    have e8 : 8 * (b :: l).length = 8 + 8 * l.length := by simp; omega
    cases ms with
    | nil =>
      rw [xorL_nil, crcAll_cons, crcAll_cons, Nat.xor_assoc, Nat.xor_comm d, ← Nat.xor_assoc, crcN_xor]
      have := ih [] (crcN 8 (c ^^^ b.toNat)) (crcN 8 d) (by simp)
      rw [xorL_nil, burst, Nat.xor_zero] at this
      rw [this, burst, Nat.xor_zero, crcN_add, e8]
    | cons m ms =>
      have hx : (b ^^^ m).toNat = b.toNat ^^^ m.toNat := UInt8.toNat_xor b m
      rw [xorL, crcAll_cons, crcAll_cons, hx]
      have e1 : c ^^^ d ^^^ (b.toNat ^^^ m.toNat) = (c ^^^ b.toNat) ^^^ (d ^^^ m.toNat) := by
        rw [Nat.xor_assoc, Nat.xor_assoc]; congr 1
        rw [← Nat.xor_assoc, Nat.xor_comm d, Nat.xor_assoc]
      rw [e1, crcN_xor, ih ms _ _ (by simpa using h), e8, ← crcN_add]
      congr 2
      rw [burst, ← Nat.xor_assoc, crcN_xor 8 (d ^^^ m.toNat)]
      congr 1
      exact (crcN_shift 8 (burst ms)).symm
theorem crcAll_append (a b : List UInt8) : ∀ c, crcAll c (a ++ b) = crcAll (crcAll c a) b := by
  induction a with
  | nil => intro c; rfl
  | cons x a ih => intro c; rw [List.cons_append, crcAll_cons, crcAll_cons, ih]
theorem sum_burst (pre l ms : List UInt8) (h : ms.length ≤ l.length) (h4 : ms.length ≤ 4) (hn : ∃ m ∈ ms, m ≠ 0) : sum (pre ++ xorL l ms) ≠ sum (pre ++ l) := by
  have hb := burst_lt ms
  have hb2 : burst ms < 4294967296 := Nat.lt_of_lt_of_le hb (Nat.le_trans (Nat.pow_le_pow_right (by decide) h4) (by decide))
  have h1 := crcAll_burst l ms (crcAll 4294967295 pre) 0 h
  rw [Nat.xor_zero, Nat.zero_xor] at h1
  have h2 := crcN_ne (8 * l.length) hb2 (burst_ne hn)
  unfold sum
  rw [crcAll_append, crcAll_append, h1]
  have l1 := crcAll_lt l (crcAll_lt pre (c := 4294967295) (by decide))
  have l2 := crcAll_lt (xorL l ms) (crcAll_lt pre (c := 4294967295) (by decide))
  rw [h1] at l2
  intro e
  have e2 : crcAll (crcAll 4294967295 pre) l ^^^ crcN (8 * l.length) (burst ms) = crcAll (crcAll 4294967295 pre) l := by omega
  exact h2 (by
    have := congrArg (fun x => crcAll (crcAll 4294967295 pre) l ^^^ x) e2
    simp only [Nat.xor_self] at this
    rw [← Nat.xor_assoc, Nat.xor_self, Nat.zero_xor] at this
    exact this)
end Go.Proofs.Ytjlhlmnoomiblaa.Wm

namespace Go.Proofs.Ytjlhlmnoomiblaa.Wm
set_option linter.unusedSimpArgs false
set_option linter.unusedVariables false

theorem rdNumAt_cut (n : Nat) : ∀ (i a k : Nat), a + n * 2 ^ (7 * i) ≤ 1099511627775 → (0 < i → 0 < n) → k < (putNum n).length → rdNumAt i a ((putNum n).take k) = .error 3 := by
  induction n using Nat.strongRecOn with
  | ind n ih =>
    intro i a k hle hpos hk
    cases k with
    | zero => rfl
    | succ k =>
      have h5 : ¬ 5 < i := by
        intro h
        have hn := hpos (by omega)
        have h1 : 2 ^ 42 ≤ 2 ^ (7 * i) := Nat.pow_le_pow_right (by decide) (by omega)
        have h2 : 1 * 2 ^ (7 * i) ≤ n * 2 ^ (7 * i) := Nat.mul_le_mul_right _ hn
        have h3 : (2 : Nat) ^ 42 = 4398046511104 := by decide
        omega
      by_cases hn : n < 128
      · rw [putNum_small hn] at hk; simp at hk
      · have e1 : (UInt8.ofNat (128 + n % 128)).toNat = 128 + n % 128 := by rw [UInt8.toNat_ofNat']; omega
        have e2 : (UInt8.ofNat (128 + n % 128)).toNat % 128 = n % 128 := by omega
        have hsum : a + n % 128 * 2 ^ (7 * i) + n / 128 * 2 ^ (7 * (i + 1)) = a + n * 2 ^ (7 * i) := by
          have hp : 2 ^ (7 * (i + 1)) = 128 * 2 ^ (7 * i) := by rw [show 7 * (i + 1) = 7 * i + 7 from by omega, Nat.pow_add, Nat.mul_comm]
          have hd : n % 128 + n / 128 * 128 = n := by omega
          rw [hp, ← Nat.mul_assoc, Nat.add_assoc, ← Nat.add_mul, hd]
        rw [putNum_big hn, List.length_cons] at hk
        have hrec := ih (n / 128) (by omega) (i + 1) (a + n % 128 * 2 ^ (7 * i)) k (by rw [hsum]; exact hle) (fun _ => by omega) (by omega)
        rw [putNum_big hn, List.take_succ_cons, rdNumAt, e2, if_neg, if_neg (by omega), hrec]
        rintro (⟨h, h0⟩ | h | h)
        · omega
        · have : n % 128 * 2 ^ (7 * i) ≤ n * 2 ^ (7 * i) := Nat.mul_le_mul_right _ (Nat.mod_le _ _)
          omega
        · exact h5 h
theorem rdText_cut {most : Nat} (x : List UInt8) (k : Nat) (h : x.length ≤ 1099511627775) (hm : x.length ≤ most) (hk : k < (putText x).length) : rdText most ((putText x).take k) = .error 3 := by
  unfold putText at hk ⊢
  by_cases hl : k < (putNum x.length).length
  · have h1 := rdNumAt_cut x.length 0 0 k (by simpa using h) (fun h => absurd h (Nat.lt_irrefl 0)) hl
    rw [List.take_append_of_le_length (Nat.le_of_lt hl), rdText, rdUpTo, rdNum, h1]
  · have hk2 : k - (putNum x.length).length < x.length := by rw [List.length_append] at hk; omega
    rw [List.take_append, List.take_of_length_le (Nat.le_of_not_lt hl), rdText, rdUpTo_put h hm]
    simp only [rdTake]
    rw [if_pos (by rw [List.length_take]; omega)]
theorem sumBytes_length (c : Nat) : (sumBytes c).length = 4 := rfl
theorem unframe_frame (body t : List UInt8) (h : body.length ≤ 65536) : unframe (frame body ++ t) = .ok (body, t) := by
  rw [unframe, frame, List.append_assoc, rdText_put body (by omega) h]
  simp only []
  have h4 := rdTake_append (sumBytes (sum body)) t
  rw [sumBytes_length] at h4
  rw [h4]
  simp only []
  exact if_pos trivial
theorem unframe_nil : unframe [] = .error 3 := rfl
theorem unframe_cut (body : List UInt8) (k : Nat) (h : body.length ≤ 65536) (hk : k < (frame body).length) : unframe ((frame body).take k) = .error 3 := by
  unfold frame at hk ⊢
  by_cases hl : k < (putText body).length
  · rw [List.take_append_of_le_length (Nat.le_of_lt hl), unframe, rdText_cut body k (by omega) h hl]
  · rw [List.length_append, sumBytes_length] at hk
    rw [List.take_append, List.take_of_length_le (Nat.le_of_not_lt hl), unframe, rdText_put body (by omega) h]
    simp only [rdTake]
    rw [if_pos (by rw [List.length_take, sumBytes_length]; omega)]
theorem sumBytes_inj {a b : Nat} (ha : a < 4294967296) (hb : b < 4294967296) (h : sumBytes a = sumBytes b) : a = b := by
  simp only [sumBytes, List.cons.injEq, and_true] at h
  obtain ⟨h0, h1, h2, h3⟩ := h
  have k0 := congrArg UInt8.toNat h0
  have k1 := congrArg UInt8.toNat h1
  have k2 := congrArg UInt8.toNat h2
  have k3 := congrArg UInt8.toNat h3
  simp only [UInt8.toNat_ofNat'] at k0 k1 k2 k3
  omega
/-- a frame in which the body's bytes behind pre are turned -/
theorem unframe_turned (pre l ms : List UInt8) (hb : pre.length + l.length ≤ 65536) (h : ms.length ≤ l.length) (h4 : ms.length ≤ 4) (hn : ∃ m ∈ ms, m ≠ 0) :
    unframe (putNum (pre.length + l.length) ++ (pre ++ xorL l ms) ++ sumBytes (sum (pre ++ l))) = .error 2 := by
  have hlen : (pre ++ xorL l ms).length = pre.length + l.length := by rw [List.length_append, xorL_len]
  have e1 : putNum (pre.length + l.length) ++ (pre ++ xorL l ms) = putText (pre ++ xorL l ms) := by rw [putText, hlen]
  rw [e1, unframe, rdText_put (pre ++ xorL l ms) (by omega) (by omega)]
  simp only []
  have h4 := rdTake_append (sumBytes (sum (pre ++ l))) []
  rw [sumBytes_length, List.append_nil] at h4
  rw [h4]
  simp only []
  rw [if_neg]
  intro e
  exact sum_burst pre l ms h (by assumption) hn (sumBytes_inj (sum_lt _) (sum_lt _) e).symm
end Go.Proofs.Ytjlhlmnoomiblaa.Wm
