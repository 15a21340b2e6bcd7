/-
  Plain: the sum of bytes, both ways, and that they are one. The sum of bytes, walked both ways. Frames, written and read, both ways.
-/
import Derived.Test.YtjlhlmnoomiblaaZ01
import Derived.WalkSpells
import Derived.WalkLawsBesides
import Derived.Lib.Hide
import Derived.Test.YtjlhlmnoomiblaaZ07
import Derived.Test.YtjlhlmnoomiblaaZ11
namespace Go.Proofs.Ytjlhlmnoomiblaa.Wm
set_option linter.unusedSimpArgs false
set_option linter.unusedVariables false

def crc1 (c : Nat) : Nat := if c % 2 = 1 then c / 2 ^^^ 2197175160 else c / 2
def crcN : Nat → Nat → Nat
  | 0, c => c
  | n + 1, c => crcN n (crc1 c)
def crcAll : Nat → List UInt8 → Nat
  | c, [] => c
  | c, b :: l => crcAll (crcN 8 (c ^^^ b.toNat)) l
theorem crcAll_cons (c : Nat) (b : UInt8) (l : List UInt8) : crcAll c (b :: l) = crcAll (crcN 8 (c ^^^ b.toNat)) l := rfl
theorem crcAll_nil (c : Nat) : crcAll c [] = c := rfl
theorem crcN_succ (n c : Nat) : crcN (n + 1) c = crcN n (crc1 c) := rfl
theorem crcN_zero (c : Nat) : crcN 0 c = c := rfl
def sum (l : List UInt8) : Nat := 4294967295 - crcAll 4294967295 l

/-- one bit of the document's way: k bits of the byte b have been taken -/
def bit1 (c b k : Nat) : Nat := if (c ^^^ b / 2 ^ k) % 2 = 1 then c / 2 ^^^ 2197175160 else c / 2
/-- so many bits more, from bit k on -/
def bitN (b : Nat) : Nat → Nat → Nat → Nat
  | 0, _, c => c
  | n + 1, k, c => bitN b n (k + 1) (bit1 c b k)

theorem bitN_succ (b n k c : Nat) : bitN b (n + 1) k c = bitN b n (k + 1) (bit1 c b k) := rfl
theorem bitN_zero (b k c : Nat) : bitN b 0 k c = c := rfl
theorem xor_div2 (a b : Nat) : (a ^^^ b) / 2 = a / 2 ^^^ b / 2 := by
  have := Nat.shiftRight_xor_distrib (a := a) (b := b) (i := 1)
  simpa [Nat.shiftRight_eq_div_pow] using this
theorem bit_crc (b n : Nat) : ∀ (k c : Nat), crcN n (c ^^^ b / 2 ^ k) = bitN b n k c ^^^ b / 2 ^ (k + n) := by
  induction n with
  | zero => intro k c; rfl
  | succ n ih =>
    intro k c
    have e : crc1 (c ^^^ b / 2 ^ k) = bit1 c b k ^^^ b / 2 ^ (k + 1) := by
      have hd : b / 2 ^ (k + 1) = b / 2 ^ k / 2 := by rw [Nat.pow_succ, Nat.div_div_eq_div_mul]
      unfold crc1 bit1
      rw [xor_div2, hd]
      split
      · rw [Nat.xor_assoc, Nat.xor_assoc, Nat.xor_comm 2197175160]
      · rfl
    rw [crcN, e, ih, bitN, Nat.add_assoc k 1 n, Nat.add_comm 1 n]
theorem bit_crc8 (b c : Nat) (hb : b < 256) : bitN b 8 0 c = crcN 8 (c ^^^ b) := by
  have h := bit_crc b 8 0 c
  rw [Nat.pow_zero, Nat.div_one, Nat.zero_add, Nat.div_eq_of_lt (by simpa using hb), Nat.xor_zero] at h
  exact h.symm
theorem crc1_lt {c : Nat} (h : c < 4294967296) : crc1 c < 4294967296 := by
  unfold crc1
  split
  · exact Nat.xor_lt_two_pow (n := 32) (by omega) (by decide)
  · omega
theorem crcN_lt (n : Nat) : ∀ {c : Nat}, c < 4294967296 → crcN n c < 4294967296 := by
  induction n with
  | zero => intro c h; exact h
  | succ n ih => intro c h; exact ih (crc1_lt h)
theorem xor_byte_lt {c : Nat} (b : UInt8) (h : c < 4294967296) : c ^^^ b.toNat < 4294967296 := Nat.xor_lt_two_pow (n := 32) (by omega) (by have := b.toNat_lt; omega)
theorem crcAll_lt (l : List UInt8) : ∀ {c : Nat}, c < 4294967296 → crcAll c l < 4294967296 := by
  induction l with
  | nil => intro c h; exact h
  | cons b l ih => intro c h; exact ih (crcN_lt 8 (xor_byte_lt b h))
theorem sum_lt (l : List UInt8) : sum l < 4294967296 := by unfold sum; omega
theorem bit1_lt {c b k : Nat} (h : c < 4294967296) : bit1 c b k < 4294967296 := by
  unfold bit1
  split
  · exact Nat.xor_lt_two_pow (n := 32) (by omega) (by decide)
  · omega
theorem i64_xor_nat (a b : Nat) (ha : a < 9223372036854775808) (hb : b < 9223372036854775808) : bits .xor .i64 (a : Int) (b : Int) = ((a ^^^ b : Nat) : Int) := by
  have h1 : (BitVec.ofInt 64 (a : Int)).toNat = a := ofInt_u64 a (by omega)
  have h2 : (BitVec.ofInt 64 (b : Int)).toNat = b := ofInt_u64 b (by omega)
  have hx : a ^^^ b < 2 ^ 63 := Nat.xor_lt_two_pow (by omega) (by omega)
  show IntKind.i64.wrap ((BitVec.ofInt 64 (a : Int) ^^^ BitVec.ofInt 64 (b : Int)).toNat : Int) = _
  rw [BitVec.toNat_xor, h1, h2, IntKind.wrap_i64]
  omega
theorem u32_not (a : Nat) (ha : a < 4294967296) : bits .xor .u32 IntKind.u32.max (a : Int) = ((4294967295 - a : Nat) : Int) := by
  show IntKind.u32.wrap ((BitVec.ofInt 32 IntKind.u32.max ^^^ BitVec.ofInt 32 (a : Int)).toNat : Int) = _
  have h1 : BitVec.ofInt 32 IntKind.u32.max = BitVec.allOnes 32 := by decide
  rw [h1, BitVec.allOnes_xor, BitVec.toNat_not, ofInt_u32 a ha, IntKind.wrap_u32']
  omega
/-- the four bytes of a sum, the lowest first -/
def sumBytes (c : Nat) : List UInt8 := [UInt8.ofNat (c % 256), UInt8.ofNat (c / 256 % 256), UInt8.ofNat (c / 65536 % 256), UInt8.ofNat (c / 16777216)]
theorem bval_eq {x : Nat} {y : Int} (hx : x < 256) (h : y = (x : Int)) : bval (UInt8.ofNat x) = .int .u8 y := by rw [bval_ofNat x hx, h]
theorem sumBytes_row {c : Nat} (h : c < 4294967296) : (sumBytes c).map bval = [.int .u8 ((c : Int) % 256), .int .u8 ((c : Int) / 256 % 256), .int .u8 ((c : Int) / 65536 % 256), .int .u8 ((c : Int) / 16777216)] := by
  unfold sumBytes
  rw [List.map_cons, List.map_cons, List.map_cons, List.map_cons, List.map_nil, bval_eq (y := (c : Int) % 256) (by omega) (by omega), bval_eq (y := (c : Int) / 256 % 256) (by omega) (by omega), bval_eq (y := (c : Int) / 65536 % 256) (by omega) (by omega), bval_eq (y := (c : Int) / 16777216) (by omega) (by omega)]
def frame (body : List UInt8) : List UInt8 := putText body ++ sumBytes (sum body)
def frameB (body : List UInt8) : List UInt8 := if 65536 < body.length then [] else frame body
def frameE (body : List UInt8) : Int := if 65536 < body.length then 4 else 0
/-- the first frame's body, and what stands behind it -/
def unframe (s : List UInt8) : Res (List UInt8) :=
  match rdText 65536 s with
  | .error z => .error z
  | .ok (body, t) =>
    match rdTake 4 t with
    | .error z => .error z
    | .ok (x, u) => if x = sumBytes (sum body) then .ok (body, u) else .error 2
/-- the three results -/
def gotB {α : Type} (x0 : α) : Res α → α
  | .ok (x, _) => x
  | .error _ => x0
def gotR {α : Type} : Res α → List UInt8
  | .ok (_, t) => t
  | .error _ => []
def gotZ {α : Type} : Res α → Int
  | .ok _ => 0
  | .error z => z
theorem frame_len (body : List UInt8) (h : body.length ≤ 65536) : (frame body).length ≤ 65549 := by
  have := putNum_len10 (n := body.length) (by omega)
  simp [frame, putText, sumBytes]; omega

end Go.Proofs.Ytjlhlmnoomiblaa.Wm

namespace Go.Proofs.Ytjlhlmnoomiblaa
open Go.RowKit Wm Mm
set_option linter.unusedVariables false

set_option maxHeartbeats 1000000 in
theorem wire_sum (s : List UInt8) (w : World) (hs : s.length ≤ 9223372036854775807) :
    Calls Try.prog 29 #[str s] w fun e w' => e = .returned (.int .u32 (sum s)) ∧ w = w' := by
  obtain ⟨tot, ht⟩ := hide (crcAll 4294967295 s)
  have hlt := crcAll_lt s (c := 4294967295) (by decide)
  have e0 : sum s = 4294967295 - tot := by rw [← ht.out]; rfl
  rw [ht.out] at hlt
  rw [e0]
  go_enter Try.func29, Try.ntmps29
  go_wp2
  go_loop [3, 7] (fun c i => ∃ k m : Nat, i = .int .i64 k ∧ c = .int .u32 m ∧ k ≤ s.length ∧ m < 4294967296 ∧ Hid (crcAll m (s.drop k) = tot)) (fun _ i => s.length - (intOf i).toNat)
  case atStart => exact ⟨0, 4294967295, rfl, by simp, Nat.zero_le _, by omega, ht⟩
  case round =>
    obtain ⟨k, m, rfl, rfl, hk, hm, hc⟩ := hrel
    by_cases hlt2 : k < s.length
    · have t0 : decide (k < s.length) = true := decide_eq_true hlt2
      have hd : s.drop k = s[k] :: s.drop (k + 1) := List.drop_eq_getElem_cons hlt2
      have hc2 := hc.out
      rw [hd, crcAll_cons] at hc2
      have hb := s[k].toNat_lt
      have hx : bits .xor .u32 (m : Int) (s[k].toNat : Int) = ((m ^^^ s[k].toNat : Nat) : Int) := u32_xor_nat m _ hm (by omega)
      have hxl := xor_byte_lt s[k] hm
      obtain ⟨d, hdd⟩ : ∃ d, m ^^^ s[k].toNat = d := ⟨_, rfl⟩
      rw [hdd] at hc2 hx hxl
      have Hc2 := Lib.hid hc2
      clear hc2 hdd hd
      go_wp2
      obtain ⟨R, hR⟩ := hide (crcN 8 d)
      rw [hR.out] at Hc2
      clear hx
      go_loop [3, 16] (fun c i => ∃ j x : Nat, i = .int .i64 j ∧ c = .int .u32 x ∧ j ≤ 8 ∧ x < 4294967296 ∧ Hid (crcN (8 - j) x = R)) (fun _ i => 8 - (intOf i).toNat)
      case atStart => exact ⟨0, d, rfl, rfl, by decide, hxl, hR⟩
      case round =>
        obtain ⟨j, x, rfl, rfl, hj, hx, hN⟩ := hrel
        by_cases hlt3 : j < 8
        · have t1 : decide ((j : Int) < 8) = true := decide_eq_true (by omega)
          have hN2 := hN.out
          rw [show 8 - j = (8 - (j + 1)) + 1 from by omega, crcN_succ] at hN2
          have HN2 := Lib.hid hN2
          have hand : bits .and .u32 (x : Int) 1 = ((x % 2 : Nat) : Int) := by
            have h1 := u32_and_nat x 1 hx (by decide)
            rw [nat_mask1] at h1; exact h1
          have hl := crc1_lt hx
          by_cases hodd : x % 2 = 1
          · have e1 : crc1 x = x / 2 ^^^ 2197175160 := by unfold crc1; rw [if_pos hodd]
            have hxor : bits .xor .u32 ((x : Int) / 2) 2197175160 = ((crc1 x : Nat) : Int) := by
              have h1 := u32_xor_nat (x / 2) 2197175160 (by omega) (by decide)
              rw [e1]; simpa using h1
            have t2 : ((x : Int) % 2 == 1) = true := beq_iff_eq.2 (by omega)
            obtain ⟨y, hy⟩ := hide (crc1 x)
            rw [hy.out] at hl hxor HN2
            clear hodd hN2 hlt3 e1
            go_wp2
            go_round
            case rel => exact ⟨j + 1, y, by go_num, rfl, by have := of_decide_eq_true t1; omega, hl, HN2⟩
            case measure => have := of_decide_eq_true t1; simp [intOf]; omega
          · have e1 : crc1 x = x / 2 := by unfold crc1; rw [if_neg hodd]
            have t2 : ((x : Int) % 2 == 1) = false := beq_eq_false_iff_ne.2 (by omega)
            rw [e1] at hl HN2
            clear hodd hN2 hlt3 e1
            go_wp2
            go_round
            case rel => exact ⟨j + 1, x / 2, by go_num, by go_num, by have := of_decide_eq_true t1; omega, hl, HN2⟩
            case measure => have := of_decide_eq_true t1; simp [intOf]; omega
        · have t1 : decide ((j : Int) < 8) = false := decide_eq_false (by omega)
          obtain rfl : x = R := by rw [← hN.out, show 8 - j = 0 from by omega]; rfl
          clear hlt3
          go_wp2
          go_round
          case rel => exact ⟨k + 1, x, by go_num, rfl, by omega, hx, Hc2⟩
          case measure => simp [intOf]; omega
    · have t0 : decide (k < s.length) = false := decide_eq_false hlt2
      have e1 : m = tot := by rw [← hc.out, List.drop_eq_nil_of_le (by omega)]; rfl
      subst e1
      clear hlt2
      go_wp2
      go_ret
      exact ⟨congrArg (fun x => Ending.returned (.int .u32 x)) (u32_not m hm), rfl⟩

end Go.Proofs.Ytjlhlmnoomiblaa

namespace Go.Proofs.Ytjlhlmnoomiblaa
open Go.RowKit Wm Mm
set_option linter.unusedVariables false
set_option linter.unusedSimpArgs false

theorem toStr4 (x y z u : Int) (w : World) : (convert 35 9 (.slice (some ⟨w.heap.size, 0, none⟩) 4 4)).run Try.prog (w.alloc (.cells #[.int .u8 x, .int .u8 y, .int .u8 z, .int .u8 u] 5)) =
    .ok (str [UInt8.ofNat x.toNat, UInt8.ofNat y.toNat, UInt8.ofNat z.toNat, UInt8.ofNat u.toNat]) (w.alloc (.cells #[.int .u8 x, .int .u8 y, .int .u8 z, .int .u8 u] 5)) :=
  run_toStr_new w _ _ _ 4 4 [x, y, z, u] rfl Try.underlying35 Try.underlying5 Try.underlying9

set_option maxHeartbeats 1000000 in
theorem wire_frame (s : List UInt8) (w : World) (hs : s.length ≤ 140737488355328) :
    Calls Try.prog 40 #[str s] w fun e w' => e = .returned (.tuple #[str (frameB s), .int .i64 (frameE s)]) ∧ Below w.heap.size w w' := by
  by_cases hl : 65536 < s.length
  · have e1 : frameB s = [] := if_pos hl
    have e2 : frameE s = 4 := if_pos hl
    have t0 : decide ((65536 : Int) < (s.length : Int)) = true := decide_eq_true (by omega)
    rw [e1, e2]
    clear e1 e2 hl
    go_enter Try.func40, Try.ntmps40
    go_wp2_with fail
    go_ret2
    exact ⟨rfl, Below.refl _ _⟩
  · have e1 : frameB s = putText s ++ sumBytes (sum s) := if_neg hl
    have e2 : frameE s = 0 := if_neg hl
    have t0 : decide ((65536 : Int) < (s.length : Int)) = false := decide_eq_false (by omega)
    have hplen : (putText s).length ≤ 65545 := by
      have := putNum_len10 (n := s.length) (by omega)
      simp [putText]; omega
    have HT := Lib.hid (writer_text (w := w.alloc (.cells #[.slice none 0 0] 99)) (b := w.heap.size) (xs := []) s (by simp; omega) ⟨.slice none 0 0, hp_at _ _ rfl, World.ownsRow_nil _ _ _ _⟩)
    rw [List.nil_append] at HT
    have hc := sum_lt s
    rw [e1, e2]
    obtain ⟨p, hp⟩ := hide (putText s)
    obtain ⟨c, hcc⟩ := hide (sum s)
    rw [hp.out] at hplen HT ⊢
    rw [hcc.out] at hc ⊢
    obtain ⟨q, hq⟩ := hide (p ++ sumBytes c)
    rw [hq.out]
    clear e1 e2 hl
    go_enter Try.func40, Try.ntmps40
    go_wp2_with fail
    refine HT.out.mono ?_
    rintro e w1 ⟨rfl, hw1, hb1⟩
    have Hb1 := Lib.hid (((Below.refl w.heap.size w).alloc (Nat.le_refl _) _).trans hb1)
    have HS := Lib.hid (wire_sum s w1 (by omega))
    rw [hcc.out] at HS
    have Hw1 := Lib.hid hw1
    clear hb1 HT hw1
    go_wp2_with fail
    refine HS.out.mono ?_
    rintro e w2 ⟨rfl, rfl⟩
    obtain ⟨v, hb, hown⟩ := Hw1.out
    have c0 := cell_of_one hb
    have f0 := free_of_one hb
    have Hb := Lib.hid hb
    have Ho := Lib.hid hown
    have hsz : w.heap.size + 1 ≤ w1.heap.size := lt_of_block hb
    clear HS hb hown
    go_wp2_with (at_builtin; refine wpList_append_src rfl _ _ 35 35 rfl (w.heap.size + 1) 5 (.int .u8 0) 1 1 Try.underlying35 info_u8 rfl _ _ _ rfl (Ho.out.alloc _) _ 4 _ rfl (src_new Try.underlying35 _ 4 rfl (by intro u hu; simp at hu; rcases hu with rfl | rfl | rfl | rfl <;> rfl)) (by unfold maxLen; omega) (by omega) (by simp; omega) ?_)
    intro v' w2 ho hg
    obtain ⟨ao, co, rfl⟩ := owns_slice ho
    have hg2 := grown_trans (World.grownBy_alloc w1 _ _) hg
    have ho' : w2.ownsRow (w.heap.size + 1) 5 1 (.slice ao (p.length + 4) co) (p ++ sumBytes c).length ((p ++ sumBytes c).map bval) := by
      have e1 : (p ++ sumBytes c).length = p.length + 4 := by simp [sumBytes]
      rw [e1, List.map_append, sumBytes_row hc]; exact ho
    obtain ⟨c1, f1, hw2, hb2⟩ := Wr.stored Hb.out Ho.out ho' hg2
    obtain ⟨v3, hb3, ho3⟩ := hw2
    have c3 := cell_of_one hb3
    have kc := run_toStr_own (P := Try.prog) _ 35 9 5 _ _ v3 (p ++ sumBytes c) Try.underlying35 Try.underlying5 Try.underlying9 ho3
    have Hb2 := Lib.hid (Hb1.out.trans hb2)
    rw [hq.out] at kc
    clear hg hg2 ho ho' hb2 hb3 ho3 c0 f0
    go_wp2_with fail
    go_ret2
    exact ⟨rfl, Hb2.out⟩

/-- what reading a frame hands back -/
def FrameGot (w : World) (res : Res (List UInt8)) (e : Ending) (w' : World) : Prop :=
  e = .returned (.tuple #[str (gotB [] res), str (gotR res), .int .i64 (gotZ res)]) ∧ Below w.heap.size w w'

set_option maxHeartbeats 1000000 in
theorem catch_frame (b : Nat) (x y : Value) (z0 z : Int) (w : World) (hx : w.heap[b]? = some (.cells #[x] 9 (0, 0))) (hy : w.heap[b + 1]? = some (.cells #[y] 9 (0, 0))) (he : w.heap[b + 1 + 1]? = some (.cells #[.int .i64 z0] 49 (0, 0))) :
    CallsD Try.prog 26 #[.pointer (some ⟨b, 0, none⟩), .pointer (some ⟨b + 1, 0, none⟩), .pointer (some ⟨b + 1 + 1, 0, none⟩)] (.panicking [{ v := .iface 76 (.agg #[.int .i64 z]), recovered := false }]) w fun e u' w' =>
      e = .returned (.tuple #[]) ∧ u' = .panicking [{ v := .iface 76 (.agg #[.int .i64 z]), recovered := true }] ∧
      w'.cell? ⟨b, 0, none⟩ = some (str []) ∧ w'.cell? ⟨b + 1, 0, none⟩ = some (str []) ∧ w'.cell? ⟨b + 1 + 1, 0, none⟩ = some (.int .i64 z) ∧ Below b w w' := by
  refine callsD_of_wpS Try.func26 rfl fun c₀ cs hu => ?_
  refine wpS_seq_recover rfl (by simp [go_sem]) (v := .iface 76 (.agg #[.int .i64 z])) (cs' := { c₀ with mode := .panicking [{ v := .iface 76 (.agg #[.int .i64 z]), recovered := true }] } :: cs) ?_ ?_
  · simp [recovered, recoverD, hu]
  simp only [Try.ntmps26, List.size_toArray, List.length_cons, List.length_nil, Nat.reduceAdd, Nat.reduceSub, Array.replicate_succ, Array.replicate_zero, List.push_toArray, List.append_toArray, List.nil_append, List.cons_append]
  have l1 := lt_of_block hx
  have l2 := lt_of_block hy
  have l3 := lt_of_block he
  have n1 : w.heap.size ≠ b := by omega
  have n2 : w.heap.size ≠ b + 1 := by omega
  have n3 : w.heap.size ≠ b + 1 + 1 := by omega
  have cx := cell_of_one hx
  have cy := cell_of_one hy
  have ce := cell_of_one he
  have fx := free_of_one hx
  have fy := free_of_one hy
  have fe := free_of_one he
  have Hx := Lib.hid hx
  have Hy := Lib.hid hy
  have He := Lib.hid he
  clear hx hy he
  have k1 := assert_stop
  go_wp2
  go_region
  all_goals go_wp2
  all_goals refine ⟨rfl, _, rfl, _, results_none rfl _ _ _, rfl, rfl, ?_, ?_, ?_, ?_⟩
  all_goals first
    | exact (((((Below.refl b w).setCell (p := ⟨b, 0, none⟩) (Nat.le_refl _) _).setCell (p := ⟨b + 1, 0, none⟩) (Nat.le_succ _) _).setCell (p := ⟨b + 1 + 1, 0, none⟩) (by show b ≤ b + 1 + 1; omega) _).alloc (by simp; omega) _).drew
    | exact (((((Below.refl b w).setCell (p := ⟨b + 1, 0, none⟩) (Nat.le_succ _) _).setCell (p := ⟨b, 0, none⟩) (Nat.le_refl _) _).setCell (p := ⟨b + 1 + 1, 0, none⟩) (by show b ≤ b + 1 + 1; omega) _).alloc (by simp; omega) _).drew
    | (simp [go_sem, World.cell?_setCell_other, World.cell?_setCell_same, cx, cy, ce, fx, fy, fe, l1, l2, l3]; done)

set_option maxHeartbeats 1000000 in
theorem idle_frame (p q r : Addr) (w : World) :
    CallsD Try.prog 26 #[.pointer (some p), .pointer (some q), .pointer (some r)] .returning w fun e u' w' =>
      e = .returned (.tuple #[]) ∧ u' = .returning ∧ w.alloc (.cells #[.int .i64 0] 76) = w' := by
  refine callsD_of_wpS Try.func26 rfl fun c₀ cs hu => ?_
  refine wpS_seq_recover rfl (by simp [go_sem]) (v := .nilIface) (cs' := c₀ :: cs) ?_ ?_
  · simp [recovered, recoverD, hu]
  simp only [Try.ntmps26, List.size_toArray, List.length_cons, List.length_nil, Nat.reduceAdd, Nat.reduceSub, Array.replicate_succ, Array.replicate_zero, List.push_toArray, List.append_toArray, List.nil_append, List.cons_append]
  have k1 := assert_nil
  go_wp2
  refine ⟨rfl, .returning, ?_, _, results_none rfl _ _ _, rfl, rfl, rfl⟩
  cases c₀
  simp_all

set_option maxHeartbeats 2000000 in
theorem wire_unframe (s : List UInt8) (w : World) (hs : s.length ≤ 9223372036854775807) :
    Calls Try.prog 16 #[str s] w (FrameGot w (unframe s)) := by
  have hmf : ∀ (fn : Fn) (first cap : Array Value) (w : World), (Instr.makeFunc fn first cap).run Try.prog w = .ok (.func fn first cap) w := fun _ _ _ _ => rfl
  obtain ⟨res, HR⟩ := hide (unframe s)
  rw [HR.out]
  have kc := toStr4
  go_enter_defers Try.func16, Try.ntmps16
  go_wp2_with fail
  obtain ⟨W, hW⟩ := hide ((((w.alloc (.cells #[str []] 9)).alloc (.cells #[str []] 9)).alloc (.cells #[.int .i64 0] 49)).alloc (.cells #[str s] 80))
  rw [hW.out]
  have Hx : Hid (W.heap[w.heap.size]? = some (.cells #[str []] 9 (0, 0))) := by
    rw [← hW.out]; exact (hp_past _ _ (by simp only [World.size_alloc]; omega)).trans ((hp_past _ _ (by simp only [World.size_alloc]; omega)).trans ((hp_past _ _ (by simp only [World.size_alloc]; omega)).trans (hp_at _ _ rfl)))
  have Hy : Hid (W.heap[w.heap.size + 1]? = some (.cells #[str []] 9 (0, 0))) := by
    rw [← hW.out]; exact (hp_past _ _ (by simp only [World.size_alloc]; omega)).trans ((hp_past _ _ (by simp only [World.size_alloc]; omega)).trans (hp_at _ _ (by simp only [World.size_alloc])))
  have He : Hid (W.heap[w.heap.size + 2]? = some (.cells #[.int .i64 0] 49 (0, 0))) := by
    rw [← hW.out]; exact (hp_past _ _ (by simp only [World.size_alloc]; omega)).trans (hp_at _ _ (by simp only [World.size_alloc]))
  have Hr : Hid (Rd W (w.heap.size + 1 + 1 + 1) s) := by
    rw [← hW.out]; exact ⟨hp_at _ _ (by simp only [World.size_alloc]), hs⟩
  have Hb : Hid (Below w.heap.size w W) := by
    rw [← hW.out]
    exact ((((Below.refl _ _).alloc (Nat.le_refl _) _).alloc (by simp) _).alloc (by simp; omega) _).alloc (by simp; omega) _
  have Hsz : Hid (W.heap.size = w.heap.size + 4) := by rw [← hW.out]; show _ = _; simp
  have Hsum : ∀ body : List UInt8, sum body < 4294967296 := sum_lt
  refine (text_rd 65536 (by decide) Hr.out).mono ?_
  intro e w1 hp
  have step : ∀ (w1 w2 : World), Hid (W.heap.size ≤ w1.heap.size) → w1.grownBy w2 (some (w.heap.size + 1 + 1 + 1)) → Below (w.heap.size + 1 + 1 + 1) w1 w2 :=
    fun _ _ h hg => grown_below hg (Nat.le_refl _) (by have h1 := h.out; have h2 := Hsz.out; omega)
  have Step := Lib.hid step
  clear step
  cases hx : rdText 65536 s with
  | error z =>
    rw [hx] at hp
    obtain ⟨rfl, hg⟩ := hp
    obtain rfl : .error z = res := by rw [← HR.out, unframe, hx]
    have hb1 := Step.out _ _ (Nat.le_refl _) hg
    have hx1 := (hb1.block w.heap.size (by omega)).trans Hx.out
    have hy1 := (hb1.block (w.heap.size + 1) (by omega)).trans Hy.out
    have he1 := (hb1.block (w.heap.size + 1 + 1) (by omega)).trans He.out
    have Hx1 := Lib.hid hx1
    have Hy1 := Lib.hid hy1
    have He1 := Lib.hid he1
    have Hb1 := Lib.hid (Hb.out.trans (hb1.mono (by omega)))
    clear hg hx hb1 hx1 hy1 he1
    go_wp2_with fail
    refine leaves_cons (f := 26) (args := #[.pointer (some ⟨w.heap.size, 0, none⟩), .pointer (some ⟨w.heap.size + 1, 0, none⟩), .pointer (some ⟨w.heap.size + 1 + 1, 0, none⟩)]) (by simp) (by simp [go_sem]) ?_
    refine (catch_frame w.heap.size _ _ 0 z w1 Hx1.out Hy1.out He1.out).mono ?_
    rintro e u' w2 ⟨rfl, rfl, c1, c2, c3, hb2⟩
    have Hb2 := Lib.hid (Hb1.out.trans hb2)
    clear hb2
    simp [Leaves, settle, results, Try.results16, go_sem, c1, c2, c3, FrameGot, gotB, gotR, gotZ]
    exact Hb2.out
  | ok p =>
    obtain ⟨body, t⟩ := p
    rw [hx] at hp
    obtain ⟨rfl, hr1, hg⟩ := hp
    have hb1 := Step.out _ _ (Nat.le_refl _) hg
    have hx1 := (hb1.block w.heap.size (by omega)).trans Hx.out
    have hy1 := (hb1.block (w.heap.size + 1) (by omega)).trans Hy.out
    have he1 := (hb1.block (w.heap.size + 1 + 1) (by omega)).trans He.out
    have cx := cell_of_one hx1
    have fx := free_of_one hx1
    obtain ⟨w2, hw2⟩ := hide (w1.setCell ⟨w.heap.size, 0, none⟩ (str body))
    have Hx2 := Lib.hid (one_setCell (u := str body) hx1)
    have Hy2 := Lib.hid (hp_set_other (a := ⟨w.heap.size, 0, none⟩) (v := str body) hy1 (by simp))
    have He2 := Lib.hid (hp_set_other (a := ⟨w.heap.size, 0, none⟩) (v := str body) he1 (by simp; omega))
    have Hr2 := Lib.hid (hr1.kept (grown_setCell w1 ⟨w.heap.size, 0, none⟩ (str body)) (by simp; omega))
    have Hb2 := Lib.hid ((Hb.out.trans (hb1.mono (by omega))).setCell (p := ⟨w.heap.size, 0, none⟩) (Nat.le_refl _) (str body))
    have Hs2 : Hid (W.heap.size ≤ (w1.setCell ⟨w.heap.size, 0, none⟩ (str body)).heap.size) := by have := hb1.size; show _ ≤ _; simp; omega
    rw [hw2.out] at Hx2 Hy2 He2 Hr2 Hb2 Hs2
    have hbl : body.length ≤ s.length := rdText_le hx
    clear hg hb1 hx1 hy1 he1 hr1
    go_wp2_with fail
    rw [hw2.out]
    refine (take_rd 4 Hr2.out).mono ?_
    intro e w3 hp
    cases hy : rdTake 4 t with
    | error z =>
      rw [hy] at hp
      obtain ⟨rfl, hg⟩ := hp
      obtain rfl : .error z = res := by rw [← HR.out, unframe, hx]; simp only [hy]
      have hb1 := Step.out _ _ Hs2 hg
      have Hx1 := Lib.hid ((hb1.block w.heap.size (by omega)).trans Hx2.out)
      have Hy1 := Lib.hid ((hb1.block (w.heap.size + 1) (by omega)).trans Hy2.out)
      have He1 := Lib.hid ((hb1.block (w.heap.size + 1 + 1) (by omega)).trans He2.out)
      have Hb1 := Lib.hid (Hb2.out.trans (hb1.mono (by omega)))
      clear hg hx hy hb1 cx fx
      go_wp2_with fail
      refine leaves_cons (f := 26) (args := #[.pointer (some ⟨w.heap.size, 0, none⟩), .pointer (some ⟨w.heap.size + 1, 0, none⟩), .pointer (some ⟨w.heap.size + 1 + 1, 0, none⟩)]) (by simp) (by simp [go_sem]) ?_
      refine (catch_frame w.heap.size _ _ 0 z w3 Hx1.out Hy1.out He1.out).mono ?_
      rintro e u' w4 ⟨rfl, rfl, c1, c2, c3, hb2⟩
      have Hb4 := Lib.hid (Hb1.out.trans hb2)
      clear hb2
      simp [Leaves, settle, results, Try.results16, go_sem, c1, c2, c3, FrameGot, gotB, gotR, gotZ]
      exact Hb4.out
    | ok p =>
      obtain ⟨x, u⟩ := p
      rw [hy] at hp
      obtain ⟨rfl, hr3, hg⟩ := hp
      have e1 : (if x = sumBytes (sum body) then .ok (body, u) else .error 2) = res := by rw [← HR.out, unframe, hx]; simp only [hy]
      have hb1 := Step.out _ _ Hs2 hg
      have hx1 := (hb1.block w.heap.size (by omega)).trans Hx2.out
      have hy1 := (hb1.block (w.heap.size + 1) (by omega)).trans Hy2.out
      have he1 := (hb1.block (w.heap.size + 1 + 1) (by omega)).trans He2.out
      have c1 := cell_of_one hx1
      have f1 := free_of_one hx1
      have c2 := cell_of_one hy1
      have f2 := free_of_one hy1
      have c3 := cell_of_one he1
      have f3 := free_of_one he1
      have c4 := hr3.cell
      have l1 := lt_of_block hx1
      have l2 := lt_of_block hy1
      have l3 := lt_of_block he1
      have l4 := lt_of_block hr3.1
      have Hx1 := Lib.hid hx1
      have Hy1 := Lib.hid hy1
      have He1 := Lib.hid he1
      have Hb1 := Lib.hid (Hb2.out.trans (hb1.mono (by omega)))
      have HS := Lib.hid (wire_sum body w3 (by omega))
      have hc := sum_lt body
      obtain ⟨c, hcc⟩ := hide (sum body)
      rw [hcc.out] at HS hc e1
      have E1 := Lib.hid e1
      clear hg hx hy hb1 cx fx hr3 e1 hx1 hy1 he1 Hsum
      go_wp2_with fail
      refine HS.out.mono ?_
      rintro e w4 ⟨rfl, rfl⟩
      clear HS
      by_cases hxs : x = sumBytes c
      · have e2 : .ok (body, u) = res := by have h := E1.out; rw [if_pos hxs] at h; exact h
        have t0 : (x == sumBytes c) = true := beq_iff_eq.2 hxs
        unfold sumBytes at t0
        subst e2
        clear E1 hxs
        go_wp2_with fail
        go_region
        all_goals go_wp2_with fail
        refine leaves_cons (f := 26) (args := #[.pointer (some ⟨w.heap.size, 0, none⟩), .pointer (some ⟨w.heap.size + 1, 0, none⟩), .pointer (some ⟨w.heap.size + 1 + 1, 0, none⟩)]) (by simp) (by simp [go_sem]) ?_
        refine (idle_frame _ _ _ _).mono ?_
        rintro e u' w5 ⟨rfl, rfl, rfl⟩
        have n1 : w.heap.size < w3.heap.size + 1 := by omega
        have n3 : w.heap.size + 1 < w3.heap.size := by omega
        simp [Leaves, settle, results, Try.results16, go_sem, World.cell?_setCell_other, World.cell?_setCell_same, c1, c2, c3, n1, n3, l1, l2, l3, FrameGot, gotB, gotR, gotZ]
        exact (((((Hb1.out.setCell (p := ⟨w.heap.size, 0, none⟩) (Nat.le_refl _) _).setCell (p := ⟨w.heap.size + 1, 0, none⟩) (Nat.le_succ _) _).setCell (p := ⟨w.heap.size + 1 + 1, 0, none⟩) (by show w.heap.size ≤ w.heap.size + 1 + 1; omega) _).alloc (by simp; omega) _).drew).alloc (by simp; omega) _
      · have e2 : .error 2 = res := by have h := E1.out; rw [if_neg hxs] at h; exact h
        have t0 : (x == sumBytes c) = false := beq_eq_false_iff_ne.2 hxs
        unfold sumBytes at t0
        subst e2
        clear E1 hxs
        go_wp2_with (go_at_call 30; refine (fail_any _ _).mono ?_; rintro e w' ⟨rfl, rfl⟩)
        refine leaves_cons (f := 26) (args := #[.pointer (some ⟨w.heap.size, 0, none⟩), .pointer (some ⟨w.heap.size + 1, 0, none⟩), .pointer (some ⟨w.heap.size + 1 + 1, 0, none⟩)]) (by simp) (by simp [go_sem]) ?_
        refine (catch_frame w.heap.size _ _ 0 2 _ ((hp_past _ _ (by omega)).trans Hx1.out) ((hp_past _ _ (by omega)).trans Hy1.out) ((hp_past _ _ (by omega)).trans He1.out)).mono ?_
        rintro e u' w4 ⟨rfl, rfl, c1, c2, c3, hb2⟩
        have Hb4 := Lib.hid ((Hb1.out.alloc Hb1.out.size _).trans hb2)
        clear hb2
        simp [Leaves, settle, results, Try.results16, go_sem, c1, c2, c3, FrameGot, gotB, gotR, gotZ]
        exact Hb4.out
end Go.Proofs.Ytjlhlmnoomiblaa
