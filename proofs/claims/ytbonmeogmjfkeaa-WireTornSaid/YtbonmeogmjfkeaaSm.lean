/-
  The sum of bytes, walked both ways.
-/
import Derived.Test.YtbonmeogmjfkeaaWc
import Derived.WalkSpells
import Derived.WalkLawsBesides
import Derived.Lib.Hide
namespace Go.Proofs.Ytbonmeogmjfkeaa
open Go.RowKit Wm Mm
set_option linter.unusedVariables false

set_option maxHeartbeats 1000000 in
theorem wire_sum (s : List UInt8) (w : World) (hs : s.length ≤ 9223372036854775807) :
    Calls Try.prog 41 #[str s] w fun e w' => e = .returned (.int .u32 (sum s)) ∧ w = w' := by
  obtain ⟨tot, ht⟩ := hide (crcAll 4294967295 s)
  have hlt := crcAll_lt s (c := 4294967295) (by decide)
  have e0 : sum s = 4294967295 - tot := by rw [← ht.out]; rfl
  rw [ht.out] at hlt
  rw [e0]
  go_enter Try.func41, Try.ntmps41
  go_wp2
  go_loop [3, 7] (fun c i => ∃ k m : Nat, i = .int .i64 k ∧ c = .int .u32 m ∧ k ≤ s.length ∧ m < 4294967296 ∧ Hid (crcAll m (s.drop k) = tot)) (fun _ i => s.length - (intOf i).toNat)
  case atStart => exact ⟨0, 4294967295, rfl, by simp, Nat.zero_le _, by omega, ht⟩
  case round =>
    obtain ⟨k, m, rfl, rfl, hk, hm, hc⟩ := hrel
    by_cases hlt2 : k < s.length
    · have t0 : decide (k < s.length) = true := decide_eq_true hlt2
      have hd : s.drop k = s[k] :: s.drop (k + 1) := List.drop_eq_getElem_cons hlt2
      have hc2 := hc.out
      rw [hd, crcAll_cons] at hc2
      have hb := s[k].toNat_lt
      have hx : bits .xor .u32 (m : Int) (s[k].toNat : Int) = ((m ^^^ s[k].toNat : Nat) : Int) := u32_xor_nat m _ hm (by omega)
      have hxl := xor_byte_lt s[k] hm
      obtain ⟨d, hdd⟩ : ∃ d, m ^^^ s[k].toNat = d := ⟨_, rfl⟩
      rw [hdd] at hc2 hx hxl
      have Hc2 := Lib.hid hc2
      clear hc2 hdd hd
      go_wp2
      obtain ⟨R, hR⟩ := hide (crcN 8 d)
      rw [hR.out] at Hc2
      clear hx
      go_loop [3, 16] (fun c i => ∃ j x : Nat, i = .int .i64 j ∧ c = .int .u32 x ∧ j ≤ 8 ∧ x < 4294967296 ∧ Hid (crcN (8 - j) x = R)) (fun _ i => 8 - (intOf i).toNat)
      case atStart => exact ⟨0, d, rfl, rfl, by decide, hxl, hR⟩
      case round =>
        obtain ⟨j, x, rfl, rfl, hj, hx, hN⟩ := hrel
        by_cases hlt3 : j < 8
        · have t1 : decide ((j : Int) < 8) = true := decide_eq_true (by omega)
          have hN2 := hN.out
          rw [show 8 - j = (8 - (j + 1)) + 1 from by omega, crcN_succ] at hN2
          have HN2 := Lib.hid hN2
          have hand : bits .and .u32 (x : Int) 1 = ((x % 2 : Nat) : Int) := by
            have h1 := u32_and_nat x 1 hx (by decide)
            rw [nat_mask1] at h1; exact h1
          have hl := crc1_lt hx
          by_cases hodd : x % 2 = 1
          · have e1 : crc1 x = x / 2 ^^^ 2197175160 := by unfold crc1; rw [if_pos hodd]
            have hxor : bits .xor .u32 ((x : Int) / 2) 2197175160 = ((crc1 x : Nat) : Int) := by
              have h1 := u32_xor_nat (x / 2) 2197175160 (by omega) (by decide)
              rw [e1]; simpa using h1
            have t2 : ((x : Int) % 2 == 1) = true := beq_iff_eq.2 (by omega)
            obtain ⟨y, hy⟩ := hide (crc1 x)
            rw [hy.out] at hl hxor HN2
            clear hodd hN2 hlt3 e1
            go_wp2
            go_round
            case rel => exact ⟨j + 1, y, by go_num, rfl, by have := of_decide_eq_true t1; omega, hl, HN2⟩
            case measure => have := of_decide_eq_true t1; simp [intOf]; omega
          · have e1 : crc1 x = x / 2 := by unfold crc1; rw [if_neg hodd]
            have t2 : ((x : Int) % 2 == 1) = false := beq_eq_false_iff_ne.2 (by omega)
            rw [e1] at hl HN2
            clear hodd hN2 hlt3 e1
            go_wp2
            go_round
            case rel => exact ⟨j + 1, x / 2, by go_num, by go_num, by have := of_decide_eq_true t1; omega, hl, HN2⟩
            case measure => have := of_decide_eq_true t1; simp [intOf]; omega
        · have t1 : decide ((j : Int) < 8) = false := decide_eq_false (by omega)
          obtain rfl : x = R := by rw [← hN.out, show 8 - j = 0 from by omega]; rfl
          clear hlt3
          go_wp2
          go_round
          case rel => exact ⟨k + 1, x, by go_num, rfl, by omega, hx, Hc2⟩
          case measure => simp [intOf]; omega
    · have t0 : decide (k < s.length) = false := decide_eq_false hlt2
      have e1 : m = tot := by rw [← hc.out, List.drop_eq_nil_of_le (by omega)]; rfl
      subst e1
      clear hlt2
      go_wp2
      go_ret
      exact ⟨congrArg (fun x => Ending.returned (.int .u32 x)) (u32_not m hm), rfl⟩

set_option maxHeartbeats 1000000 in
theorem ref_sum (s : List UInt8) (w : World) (hs : s.length ≤ 9223372036854775807) :
    Calls Try.prog 42 #[str s] w fun e w' => e = .returned (.int .i64 (sum s)) ∧ w = w' := by
  obtain ⟨tot, ht⟩ := hide (crcAll 4294967295 s)
  have hlt := crcAll_lt s (c := 4294967295) (by decide)
  have e0 : sum s = 4294967295 - tot := by rw [← ht.out]; rfl
  rw [ht.out] at hlt
  rw [e0]
  clear e0
  go_enter Try.func42, Try.ntmps42
  go_wp2
  go_loop [3, 4] (fun c i => ∃ k m : Nat, i = .int .i64 k ∧ c = .int .i64 m ∧ k ≤ s.length ∧ m < 4294967296 ∧ Hid (crcAll m (s.drop k) = tot)) (fun _ i => s.length - (intOf i).toNat)
  case atStart => exact ⟨0, 4294967295, rfl, by simp, Nat.zero_le _, by omega, ht⟩
  case round =>
    obtain ⟨k, m, rfl, rfl, hk, hm, hc⟩ := hrel
    by_cases hlt2 : k < s.length
    · have t0 : decide (k < s.length) = true := decide_eq_true hlt2
      have hd : s.drop k = s[k] :: s.drop (k + 1) := List.drop_eq_getElem_cons hlt2
      have hc2 := hc.out
      have hb := s[k].toNat_lt
      rw [hd, crcAll_cons, ← bit_crc8 _ _ (by omega)] at hc2
      obtain ⟨R, hR⟩ := hide (bitN s[k].toNat 8 0 m)
      rw [hR.out] at hc2
      have Hc2 := Lib.hid hc2
      clear hc2 hd
      go_wp2
      go_loop [3, 5] (fun c i => ∃ j x : Nat, i = .int .i64 j ∧ c = .int .i64 x ∧ j ≤ 8 ∧ x < 4294967296 ∧ Hid (bitN s[k].toNat (8 - j) j x = R)) (fun _ i => 8 - (intOf i).toNat)
      case atStart => exact ⟨0, m, rfl, rfl, by decide, hm, hR⟩
      case round =>
        obtain ⟨j, x, rfl, rfl, hj, hx, hN⟩ := hrel
        by_cases hlt3 : j < 8
        · have t1 : decide ((j : Int) < 8) = true := decide_eq_true (by omega)
          have hN2 := hN.out
          rw [show 8 - j = (8 - (j + 1)) + 1 from by omega, bitN_succ] at hN2
          have HN2 := Lib.hid hN2
          have hl := bit1_lt (b := s[k].toNat) (k := j) hx
          obtain ⟨q, hq⟩ : ∃ q : Nat, x ^^^ s[k].toNat / 2 ^ j = q := ⟨_, rfl⟩
          have hbj : s[k].toNat / 2 ^ j < 256 := Nat.lt_of_le_of_lt (Nat.div_le_self _ _) hb
          have hx1 : bits .xor .i64 (x : Int) ((s[k].toNat : Int) / 2 ^ j) = (q : Int) := by
            have h1 := i64_xor_nat x (s[k].toNat / 2 ^ j) (by omega) (by omega)
            rw [hq] at h1
            rw [← h1]; push_cast; rfl
          have Hq := Lib.hid hq
          have Hx1 := Lib.hid hx1
          clear hq hN2 hbj
          by_cases hodd : q % 2 = 1
          · have e1 : bit1 x s[k].toNat j = x / 2 ^^^ 2197175160 := by unfold bit1; rw [Hq.out, if_pos hodd]
            have hxor : bits .xor .i64 ((x : Int) / 2) 2197175160 = ((bit1 x s[k].toNat j : Nat) : Int) := by
              have h1 := i64_xor_nat (x / 2) 2197175160 (by omega) (by decide)
              rw [e1]; simpa using h1
            have t2 : ((q : Int) % 2 == 1) = true := beq_iff_eq.2 (by omega)
            obtain ⟨y, hy⟩ := hide (bit1 x s[k].toNat j)
            rw [hy.out] at hl hxor HN2
            clear hodd e1 hlt3
            go_wp2
            go_round
            case rel => exact ⟨j + 1, y, by go_num, rfl, by have := of_decide_eq_true t1; omega, hl, HN2⟩
            case measure => have := of_decide_eq_true t1; simp [intOf]; omega
          · have e1 : bit1 x s[k].toNat j = x / 2 := by unfold bit1; rw [Hq.out, if_neg hodd]
            have t2 : ((q : Int) % 2 == 1) = false := beq_eq_false_iff_ne.2 (by omega)
            rw [e1] at hl HN2
            clear hodd e1 hlt3
            go_wp2
            go_round
            case rel => exact ⟨j + 1, x / 2, by go_num, by go_num, by have := of_decide_eq_true t1; omega, hl, HN2⟩
            case measure => have := of_decide_eq_true t1; simp [intOf]; omega
        · have t1 : decide ((j : Int) < 8) = false := decide_eq_false (by omega)
          obtain rfl : x = R := by rw [← hN.out, show 8 - j = 0 from by omega]; rfl
          clear hlt3
          go_wp2
          go_round
          case rel => exact ⟨k + 1, x, by go_num, rfl, by omega, hx, Hc2⟩
          case measure => simp [intOf]; omega
    · have t0 : decide (k < s.length) = false := decide_eq_false hlt2
      have e1 : m = tot := by rw [← hc.out, List.drop_eq_nil_of_le (by omega)]; rfl
      subst e1
      clear hlt2
      go_wp2
      go_ret
      exact ⟨congrArg (fun x => Ending.returned (.int .i64 x)) (by omega), rfl⟩
end Go.Proofs.Ytbonmeogmjfkeaa
