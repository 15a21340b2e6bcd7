/-
  Plain: the sum of bytes, both ways, and that they are one.
-/
import Derived.Test.YtbonmeogmjfkeaaWm
namespace Go.Proofs.Ytbonmeogmjfkeaa.Wm
set_option linter.unusedSimpArgs false
set_option linter.unusedVariables false

def crc1 (c : Nat) : Nat := if c % 2 = 1 then c / 2 ^^^ 2197175160 else c / 2
def crcN : Nat → Nat → Nat
  | 0, c => c
  | n + 1, c => crcN n (crc1 c)
def crcAll : Nat → List UInt8 → Nat
  | c, [] => c
  | c, b :: l => crcAll (crcN 8 (c ^^^ b.toNat)) l
theorem crcAll_cons (c : Nat) (b : UInt8) (l : List UInt8) : crcAll c (b :: l) = crcAll (crcN 8 (c ^^^ b.toNat)) l := rfl
theorem crcAll_nil (c : Nat) : crcAll c [] = c := rfl
theorem crcN_succ (n c : Nat) : crcN (n + 1) c = crcN n (crc1 c) := rfl
theorem crcN_zero (c : Nat) : crcN 0 c = c := rfl
def sum (l : List UInt8) : Nat := 4294967295 - crcAll 4294967295 l

/-- one bit of the document's way: k bits of the byte b have been taken -/
def bit1 (c b k : Nat) : Nat := if (c ^^^ b / 2 ^ k) % 2 = 1 then c / 2 ^^^ 2197175160 else c / 2
/-- so many bits more, from bit k on -/
def bitN (b : Nat) : Nat → Nat → Nat → Nat
  | 0, _, c => c
  | n + 1, k, c => bitN b n (k + 1) (bit1 c b k)

theorem bitN_succ (b n k c : Nat) : bitN b (n + 1) k c = bitN b n (k + 1) (bit1 c b k) := rfl
theorem bitN_zero (b k c : Nat) : bitN b 0 k c = c := rfl
theorem xor_div2 (a b : Nat) : (a ^^^ b) / 2 = a / 2 ^^^ b / 2 := by
  have := Nat.shiftRight_xor_distrib (a := a) (b := b) (i := 1)
  simpa [Nat.shiftRight_eq_div_pow] using this
theorem bit_crc (b n : Nat) : ∀ (k c : Nat), crcN n (c ^^^ b / 2 ^ k) = bitN b n k c ^^^ b / 2 ^ (k + n) := by
  induction n with
  | zero => intro k c; rfl
  | succ n ih =>
    intro k c
    have e : crc1 (c ^^^ b / 2 ^ k) = bit1 c b k ^^^ b / 2 ^ (k + 1) := by
      have hd : b / 2 ^ (k + 1) = b / 2 ^ k / 2 := by rw [Nat.pow_succ, Nat.div_div_eq_div_mul]
      unfold crc1 bit1
      rw [xor_div2, hd]
      split
      · rw [Nat.xor_assoc, Nat.xor_assoc, Nat.xor_comm 2197175160]
      · rfl
    rw [crcN, e, ih, bitN, Nat.add_assoc k 1 n, Nat.add_comm 1 n]
theorem bit_crc8 (b c : Nat) (hb : b < 256) : bitN b 8 0 c = crcN 8 (c ^^^ b) := by
  have h := bit_crc b 8 0 c
  rw [Nat.pow_zero, Nat.div_one, Nat.zero_add, Nat.div_eq_of_lt (by simpa using hb), Nat.xor_zero] at h
  exact h.symm
theorem crc1_lt {c : Nat} (h : c < 4294967296) : crc1 c < 4294967296 := by
  unfold crc1
  split
  · exact Nat.xor_lt_two_pow (n := 32) (by omega) (by decide)
  · omega
theorem crcN_lt (n : Nat) : ∀ {c : Nat}, c < 4294967296 → crcN n c < 4294967296 := by
  induction n with
  | zero => intro c h; exact h
  | succ n ih => intro c h; exact ih (crc1_lt h)
theorem xor_byte_lt {c : Nat} (b : UInt8) (h : c < 4294967296) : c ^^^ b.toNat < 4294967296 := Nat.xor_lt_two_pow (n := 32) (by omega) (by have := b.toNat_lt; omega)
theorem crcAll_lt (l : List UInt8) : ∀ {c : Nat}, c < 4294967296 → crcAll c l < 4294967296 := by
  induction l with
  | nil => intro c h; exact h
  | cons b l ih => intro c h; exact ih (crcN_lt 8 (xor_byte_lt b h))
theorem sum_lt (l : List UInt8) : sum l < 4294967296 := by unfold sum; omega
theorem bit1_lt {c b k : Nat} (h : c < 4294967296) : bit1 c b k < 4294967296 := by
  unfold bit1
  split
  · exact Nat.xor_lt_two_pow (n := 32) (by omega) (by decide)
  · omega
theorem i64_xor_nat (a b : Nat) (ha : a < 9223372036854775808) (hb : b < 9223372036854775808) : bits .xor .i64 (a : Int) (b : Int) = ((a ^^^ b : Nat) : Int) := by
  have h1 : (BitVec.ofInt 64 (a : Int)).toNat = a := ofInt_u64 a (by omega)
  have h2 : (BitVec.ofInt 64 (b : Int)).toNat = b := ofInt_u64 b (by omega)
  have hx : a ^^^ b < 2 ^ 63 := Nat.xor_lt_two_pow (by omega) (by omega)
  show IntKind.i64.wrap ((BitVec.ofInt 64 (a : Int) ^^^ BitVec.ofInt 64 (b : Int)).toNat : Int) = _
  rw [BitVec.toNat_xor, h1, h2, IntKind.wrap_i64]
  omega
theorem u32_not (a : Nat) (ha : a < 4294967296) : bits .xor .u32 IntKind.u32.max (a : Int) = ((4294967295 - a : Nat) : Int) := by
  show IntKind.u32.wrap ((BitVec.ofInt 32 IntKind.u32.max ^^^ BitVec.ofInt 32 (a : Int)).toNat : Int) = _
  have h1 : BitVec.ofInt 32 IntKind.u32.max = BitVec.allOnes 32 := by decide
  rw [h1, BitVec.allOnes_xor, BitVec.toNat_not, ofInt_u32 a ha, IntKind.wrap_u32']
  omega
/-- the four bytes of a sum, the lowest first -/
def sumBytes (c : Nat) : List UInt8 := [UInt8.ofNat (c % 256), UInt8.ofNat (c / 256 % 256), UInt8.ofNat (c / 65536 % 256), UInt8.ofNat (c / 16777216)]
theorem bval_eq {x : Nat} {y : Int} (hx : x < 256) (h : y = (x : Int)) : bval (UInt8.ofNat x) = .int .u8 y := by rw [bval_ofNat x hx, h]
theorem sumBytes_row {c : Nat} (h : c < 4294967296) : (sumBytes c).map bval = [.int .u8 ((c : Int) % 256), .int .u8 ((c : Int) / 256 % 256), .int .u8 ((c : Int) / 65536 % 256), .int .u8 ((c : Int) / 16777216)] := by
  unfold sumBytes
  rw [List.map_cons, List.map_cons, List.map_cons, List.map_cons, List.map_nil, bval_eq (y := (c : Int) % 256) (by omega) (by omega), bval_eq (y := (c : Int) / 256 % 256) (by omega) (by omega), bval_eq (y := (c : Int) / 65536 % 256) (by omega) (by omega), bval_eq (y := (c : Int) / 16777216) (by omega) (by omega)]
def frame (body : List UInt8) : List UInt8 := putText body ++ sumBytes (sum body)
def frameB (body : List UInt8) : List UInt8 := if 65536 < body.length then [] else frame body
def frameE (body : List UInt8) : Int := if 65536 < body.length then 4 else 0
/-- the first frame's body, and what stands behind it -/
def unframe (s : List UInt8) : Res (List UInt8) :=
  match rdText 65536 s with
  | .error z => .error z
  | .ok (body, t) =>
    match rdTake 4 t with
    | .error z => .error z
    | .ok (x, u) => if x = sumBytes (sum body) then .ok (body, u) else .error 2
/-- the three results -/
def gotB {α : Type} (x0 : α) : Res α → α
  | .ok (x, _) => x
  | .error _ => x0
def gotR {α : Type} : Res α → List UInt8
  | .ok (_, t) => t
  | .error _ => []
def gotZ {α : Type} : Res α → Int
  | .ok _ => 0
  | .error z => z
theorem frame_len (body : List UInt8) (h : body.length ≤ 65536) : (frame body).length ≤ 65549 := by
  have := putNum_len10 (n := body.length) (by omega)
  simp [frame, putText, sumBytes]; omega

end Go.Proofs.Ytbonmeogmjfkeaa.Wm
