/-
  Plain: whole frames come back, torn ones are short, turned ones have another sum.
-/
import Derived.Test.YtbonmeogmjfkeaaTn
import Derived.Test.YtbonmeogmjfkeaaWq
namespace Go.Proofs.Ytbonmeogmjfkeaa.Wm
set_option linter.unusedSimpArgs false
set_option linter.unusedVariables false

theorem rdNumAt_cut (n : Nat) : ∀ (i a k : Nat), a + n * 2 ^ (7 * i) ≤ 1099511627775 → (0 < i → 0 < n) → k < (putNum n).length → rdNumAt i a ((putNum n).take k) = .error 3 := by
  induction n using Nat.strongRecOn with
  | ind n ih =>
    intro i a k hle hpos hk
    cases k with
    | zero => rfl
    | succ k =>
      have h5 : ¬ 5 < i := by
        intro h
        have hn := hpos (by omega)
        have h1 : 2 ^ 42 ≤ 2 ^ (7 * i) := Nat.pow_le_pow_right (by decide) (by omega)
        have h2 : 1 * 2 ^ (7 * i) ≤ n * 2 ^ (7 * i) := Nat.mul_le_mul_right _ hn
        have h3 : (2 : Nat) ^ 42 = 4398046511104 := by decide
        omega
      by_cases hn : n < 128
      · rw [putNum_small hn] at hk; simp at hk
      · have e1 : (UInt8.ofNat (128 + n % 128)).toNat = 128 + n % 128 := by rw [UInt8.toNat_ofNat']; omega
        have e2 : (UInt8.ofNat (128 + n % 128)).toNat % 128 = n % 128 := by omega
        have hsum : a + n % 128 * 2 ^ (7 * i) + n / 128 * 2 ^ (7 * (i + 1)) = a + n * 2 ^ (7 * i) := by
          have hp : 2 ^ (7 * (i + 1)) = 128 * 2 ^ (7 * i) := by rw [show 7 * (i + 1) = 7 * i + 7 from by omega, Nat.pow_add, Nat.mul_comm]
          have hd : n % 128 + n / 128 * 128 = n := by omega
          rw [hp, ← Nat.mul_assoc, Nat.add_assoc, ← Nat.add_mul, hd]
        rw [putNum_big hn, List.length_cons] at hk
        have hrec := ih (n / 128) (by omega) (i + 1) (a + n % 128 * 2 ^ (7 * i)) k (by rw [hsum]; exact hle) (fun _ => by omega) (by omega)
        rw [putNum_big hn, List.take_succ_cons, rdNumAt, e2, if_neg, if_neg (by omega), hrec]
        rintro (⟨h, h0⟩ | h | h)
        · omega
        · have : n % 128 * 2 ^ (7 * i) ≤ n * 2 ^ (7 * i) := Nat.mul_le_mul_right _ (Nat.mod_le _ _)
          omega
        · exact h5 h
theorem rdText_cut {most : Nat} (x : List UInt8) (k : Nat) (h : x.length ≤ 1099511627775) (hm : x.length ≤ most) (hk : k < (putText x).length) : rdText most ((putText x).take k) = .error 3 := by
  unfold putText at hk ⊢
  by_cases hl : k < (putNum x.length).length
  · have h1 := rdNumAt_cut x.length 0 0 k (by simpa using h) (fun h => absurd h (Nat.lt_irrefl 0)) hl
    rw [List.take_append_of_le_length (Nat.le_of_lt hl), rdText, rdUpTo, rdNum, h1]
  · have hk2 : k - (putNum x.length).length < x.length := by rw [List.length_append] at hk; omega
    rw [List.take_append, List.take_of_length_le (Nat.le_of_not_lt hl), rdText, rdUpTo_put h hm]
    simp only [rdTake]
    rw [if_pos (by rw [List.length_take]; omega)]
theorem sumBytes_length (c : Nat) : (sumBytes c).length = 4 := rfl
theorem unframe_frame (body t : List UInt8) (h : body.length ≤ 65536) : unframe (frame body ++ t) = .ok (body, t) := by
  rw [unframe, frame, List.append_assoc, rdText_put body (by omega) h]
  simp only []
  have h4 := rdTake_append (sumBytes (sum body)) t
  rw [sumBytes_length] at h4
  rw [h4]
  simp only []
  exact if_pos trivial
theorem unframe_nil : unframe [] = .error 3 := rfl
theorem unframe_cut (body : List UInt8) (k : Nat) (h : body.length ≤ 65536) (hk : k < (frame body).length) : unframe ((frame body).take k) = .error 3 := by
  unfold frame at hk ⊢
  by_cases hl : k < (putText body).length
  · rw [List.take_append_of_le_length (Nat.le_of_lt hl), unframe, rdText_cut body k (by omega) h hl]
  · rw [List.length_append, sumBytes_length] at hk
    rw [List.take_append, List.take_of_length_le (Nat.le_of_not_lt hl), unframe, rdText_put body (by omega) h]
    simp only [rdTake]
    rw [if_pos (by rw [List.length_take, sumBytes_length]; omega)]
theorem sumBytes_inj {a b : Nat} (ha : a < 4294967296) (hb : b < 4294967296) (h : sumBytes a = sumBytes b) : a = b := by
  simp only [sumBytes, List.cons.injEq, and_true] at h
  obtain ⟨h0, h1, h2, h3⟩ := h
  have k0 := congrArg UInt8.toNat h0
  have k1 := congrArg UInt8.toNat h1
  have k2 := congrArg UInt8.toNat h2
  have k3 := congrArg UInt8.toNat h3
  simp only [UInt8.toNat_ofNat'] at k0 k1 k2 k3
  omega
/-- a frame in which the body's bytes behind pre are turned -/
theorem unframe_turned (pre l ms : List UInt8) (hb : pre.length + l.length ≤ 65536) (h : ms.length ≤ l.length) (h4 : ms.length ≤ 4) (hn : ∃ m ∈ ms, m ≠ 0) :
    unframe (putNum (pre.length + l.length) ++ (pre ++ xorL l ms) ++ sumBytes (sum (pre ++ l))) = .error 2 := by
  have hlen : (pre ++ xorL l ms).length = pre.length + l.length := by rw [List.length_append, xorL_len]
  have e1 : putNum (pre.length + l.length) ++ (pre ++ xorL l ms) = putText (pre ++ xorL l ms) := by rw [putText, hlen]
  rw [e1, unframe, rdText_put (pre ++ xorL l ms) (by omega) (by omega)]
  simp only []
  have h4 := rdTake_append (sumBytes (sum (pre ++ l))) []
  rw [sumBytes_length, List.append_nil] at h4
  rw [h4]
  simp only []
  rw [if_neg]
  intro e
  exact sum_burst pre l ms h (by assumption) hn (sumBytes_inj (sum_lt _) (sum_lt _) e).symm
end Go.Proofs.Ytbonmeogmjfkeaa.Wm
