/-
  Plain laws of the plain readers: what is written comes back; both readers agree. Numbers, one behind the other: both ways of writing them, both ways of reading them, and the law.
-/
import Derived.Test.YtjlhlmnoomiblaaZ01
import Derived.Test.YtjlhlmnoomiblaaZ12
import Derived.Test.YtjlhlmnoomiblaaZ11
import Derived.Test.YtjlhlmnoomiblaaZ07
import Derived.Deep.QuietTactic
import Derived.BigQuiet
namespace Go.Proofs.Ytjlhlmnoomiblaa.Wm
set_option linter.unusedSimpArgs false
set_option linter.unusedVariables false

theorem rdNumAt_put (n : Nat) : ∀ (i a : Nat) (s : List UInt8), a + n * 2 ^ (7 * i) ≤ 1099511627775 → (0 < i → 0 < n) → rdNumAt i a (putNum n ++ s) = .ok (a + n * 2 ^ (7 * i), s) := by
  induction n using Nat.strongRecOn with
  | ind n ih =>
    intro i a s hle hpos
    have h5 : ¬ 5 < i := by
      intro h
      have hn := hpos (by omega)
      have h1 : 2 ^ 42 ≤ 2 ^ (7 * i) := Nat.pow_le_pow_right (by decide) (by omega)
      have h2 : 1 * 2 ^ (7 * i) ≤ n * 2 ^ (7 * i) := Nat.mul_le_mul_right _ hn
      have h3 : (2 : Nat) ^ 42 = 4398046511104 := by decide
      omega
    by_cases hn : n < 128
    · have e1 : (UInt8.ofNat n).toNat = n := by rw [UInt8.toNat_ofNat']; omega
      have e2 : (UInt8.ofNat n).toNat % 128 = n := by omega
      rw [putNum_small hn, List.singleton_append, rdNumAt, e2, if_neg, if_pos (by omega)]
      rintro (⟨h, h0⟩ | h | h)
      · have := hpos h; omega
      · omega
      · exact h5 h
    · have e1 : (UInt8.ofNat (128 + n % 128)).toNat = 128 + n % 128 := by rw [UInt8.toNat_ofNat']; omega
      have e2 : (UInt8.ofNat (128 + n % 128)).toNat % 128 = n % 128 := by omega
      have hsum : a + n % 128 * 2 ^ (7 * i) + n / 128 * 2 ^ (7 * (i + 1)) = a + n * 2 ^ (7 * i) := by
        have hp : 2 ^ (7 * (i + 1)) = 128 * 2 ^ (7 * i) := by rw [show 7 * (i + 1) = 7 * i + 7 from by omega, Nat.pow_add, Nat.mul_comm]
        have hd : n % 128 + n / 128 * 128 = n := by omega
        rw [hp, ← Nat.mul_assoc, Nat.add_assoc, ← Nat.add_mul, hd]
      have hrec := ih (n / 128) (by omega) (i + 1) (a + n % 128 * 2 ^ (7 * i)) s (by rw [hsum]; exact hle) (fun _ => by omega)
      rw [putNum_big hn, List.cons_append, rdNumAt, e2, if_neg, if_neg (by omega), hrec, hsum]
      rintro (⟨h, h0⟩ | h | h)
      · omega
      · have : n % 128 * 2 ^ (7 * i) ≤ n * 2 ^ (7 * i) := Nat.mul_le_mul_right _ (Nat.mod_le _ _)
        omega
      · exact h5 h
theorem rdNum_put {n : Nat} (h : n ≤ 1099511627775) (s : List UInt8) : rdNum (putNum n ++ s) = .ok (n, s) := by
  have := rdNumAt_put n 0 0 s (by simpa using h) (fun h => absurd h (Nat.lt_irrefl 0))
  simpa [rdNum] using this
theorem rdTake_append (a s : List UInt8) : rdTake a.length (a ++ s) = .ok (a, s) := by simp [rdTake]
theorem rdUpTo_put {n most : Nat} (h : n ≤ 1099511627775) (hm : n ≤ most) (s : List UInt8) : rdUpTo most (putNum n ++ s) = .ok (n, s) := by
  rw [rdUpTo, rdNum_put h]
  simp only [if_neg (Nat.not_lt.2 hm)]
theorem rdText_put {most : Nat} (x : List UInt8) (h : x.length ≤ 1099511627775) (hm : x.length ≤ most) (s : List UInt8) : rdText most (putText x ++ s) = .ok (x, s) := by
  rw [rdText, putText, List.append_assoc, rdUpTo_put h hm]
  exact rdTake_append x s
theorem rdMany_put (l : List Nat) : ∀ (acc : List Nat) (s : List UInt8), (∀ n ∈ l, n ≤ 1099511627775) → rdMany l.length acc (l.flatMap putNum ++ s) = .ok (acc ++ l, s) := by
  induction l with
  | nil => intro acc s _; simp [rdMany]
  | cons n l ih =>
    intro acc s h
    rw [List.flatMap_cons, List.append_assoc, List.length_cons, rdMany, rdNum_put (h n (List.mem_cons_self ..))]
    simp only []
    rw [ih (acc ++ [n]) s (fun m hm => h m (List.mem_cons_of_mem _ hm))]
    simp

/-- what the plain reader's loop comes to -/
def manyS : Nat → List Nat → St → List Nat × St
  | 0, acc, σ => (acc, σ)
  | k + 1, acc, σ => manyS k (acc ++ [stepV 0 rdNum σ]) (stepS rdNum σ)
theorem manyS_error (k : Nat) : ∀ (acc : List Nat) (z : Int), (manyS k acc (.error z)).2 = .error z := by
  induction k with
  | zero => intro acc z; rfl
  | succ k ih => intro acc z; rw [manyS]; exact ih _ _
theorem manyS_ok (k : Nat) : ∀ (acc : List Nat) (s : List UInt8), match rdMany k acc s with
    | .ok (l, t) => manyS k acc (.ok s) = (l, .ok t)
    | .error z => (manyS k acc (.ok s)).2 = .error z := by
  induction k with
  | zero => intro acc s; rfl
  | succ k ih =>
    intro acc s
    match h : rdNum s with
    | .error z =>
      simp only [rdMany, h]
      rw [manyS]
      simp only [stepS, h, rstOf]
      exact manyS_error k _ z
    | .ok (x, t) =>
      simp only [rdMany, h, manyS, stepV, stepS, rvalOf, rstOf]
      exact ih _ _
theorem rdNumAt_err {i n : Nat} {s : List UInt8} {z : Int} (h : rdNumAt i n s = .error z) : z ≠ 0 := by
  induction s generalizing i n with
  | nil => simp [rdNumAt] at h; omega
  | cons c s ih =>
    rw [rdNumAt] at h
    split at h
    · cases h; decide
    · split at h
      · cases h
      · exact ih h
theorem rdNum_err {s : List UInt8} {z : Int} (h : rdNum s = .error z) : z ≠ 0 := rdNumAt_err h
theorem rdMany_err {k : Nat} : ∀ {acc : List Nat} {s : List UInt8} {z : Int}, rdMany k acc s = .error z → z ≠ 0 := by
  induction k with
  | zero => intro acc s z h; cases h
  | succ k ih =>
    intro acc s z h
    match h1 : rdNum s with
    | .error y =>
      simp only [rdMany, h1] at h
      cases h
      exact rdNum_err h1
    | .ok (x, t) =>
      simp only [rdMany, h1] at h
      exact ih h
theorem many_same (n : Nat) (s : List UInt8) :
    (match endS (manyS n [] (.ok s)).2 with | 0 => Except.ok (manyS n [] (.ok s)).1 | z => Except.error z) = full (rdMany n [] s) := by
  have h := manyS_ok n [] s
  match hm : rdMany n [] s with
  | .error z =>
    rw [hm] at h
    have hz := rdMany_err hm
    simp only [h, endS, full]
    try (split <;> first | rfl | (rename_i h0; exact absurd h0 hz))
  | .ok (l, t) =>
    rw [hm] at h
    simp only [h, full]
    cases t with
    | nil => rfl
    | cons c t => rfl

end Go.Proofs.Ytjlhlmnoomiblaa.Wm

namespace Go.Proofs.Ytjlhlmnoomiblaa
open Go.RowKit Wm Mm
set_option linter.unusedVariables false

def putNums (l : List Nat) : List UInt8 := l.flatMap putNum
theorem putNums_len (l : List Nat) (h : ∀ n ∈ l, n < 9223372036854775808) : (putNums l).length ≤ 9 * l.length := by
  induction l with
  | nil => simp [putNums]
  | cons n l ih =>
    have h1 := putNum_len10 (h n (List.mem_cons_self ..))
    have h2 := ih (fun m hm => h m (List.mem_cons_of_mem _ hm))
    simp [putNums] at *
    omega
theorem putNums_snoc (l : List Nat) (n : Nat) : putNums (l ++ [n]) = putNums l ++ putNum n := by simp [putNums]
theorem take_snoc {α : Type} (l : List α) (k : Nat) (h : k < l.length) : l.take (k + 1) = l.take k ++ [l[k]] := by
  rw [List.take_succ_eq_append_getElem h]
abbrev ints (l : List Nat) : List Int := l.map (fun n : Nat => (n : Int))

theorem ints_ne {l : List Nat} {k : Nat} (h : k < l.length) : ints l ≠ [] := by
  cases l with
  | nil => simp at h
  | cons _ _ => simp

set_option maxHeartbeats 1000000 in
theorem wire_putNumbers (v : Value) (l : List Nat) (w : World) (hv : Ints w v (ints l)) (hl : ∀ n ∈ l, n < 9223372036854775808) (hn : l.length ≤ 1000000) :
    Calls Try.prog 23 #[v] w fun e w' => e = .returned (str (putNums l)) ∧ Below w.heap.size w w' := by
  obtain ⟨tot, ht⟩ := hide (putNums l)
  rw [ht.out]
  obtain ⟨ao, cap, rfl, hc, hm⟩ := hv
  have HL := Lib.hid hl
  have HC := Lib.hid hc
  have hlen : (ints l).length = l.length := by simp
  rw [hlen]
  clear hl hc hm hlen
  go_enter Try.func23, Try.ntmps23
  go_wp2
  go_loopw [10] (fun i wr => ∃ k : Nat, i = .int .i64 k ∧ k ≤ l.length ∧ Hid (Wr wr w.heap.size (putNums (l.take k))) ∧ Hid (Below w.heap.size w wr)) (fun i _ => l.length - (intOf i).toNat)
  case atStart =>
    refine ⟨0, rfl, Nat.zero_le _, ?_, (Below.refl _ _).alloc (Nat.le_refl _) _⟩
    exact ⟨.slice none 0 0, hp_at _ _ rfl, World.ownsRow_nil _ _ _ _⟩
  case round =>
    obtain ⟨k, rfl, hk, hw, hb⟩ := hrel
    by_cases hlt : k < l.length
    · obtain ⟨b, off, rfl, hcell⟩ := HC.out (ints_ne hlt)
      have hcell := hcell k (l[k] : Nat) (by simp [hlt])
      have hcw : wr.cell? ⟨b, off + k, none⟩ = some (.int .i64 (l[k] : Nat)) := by
        rw [hb.out.cell (p := ⟨b, off + k, none⟩) (World.block_lt_of_cell? _ _ hcell)]; exact hcell
      have hx : l[k] < 9223372036854775808 := HL.out _ (List.getElem_mem _)
      have hsn : putNums (l.take (k + 1)) = putNums (l.take k) ++ putNum l[k] := by rw [take_snoc l k hlt, putNums_snoc]
      have hl1 : (putNums (l.take k)).length ≤ 9000000 := by
        have := putNums_len (l.take k) (fun n hn => HL.out n (List.mem_of_mem_take hn))
        have h2 : (l.take k).length ≤ l.length := by simp; omega
        omega
      have HN := Lib.hid (writer_number l[k] hx (by omega) hw.out)
      rw [← hsn] at HN
      obtain ⟨x, hX⟩ := hide l[k]
      rw [hX.out] at hcw HN
      clear hcell hsn hl1
      go_wp2_with fail
      refine HN.out.mono ?_
      rintro e w1 ⟨rfl, hw1, hb1⟩
      have Hw1 := Lib.hid hw1
      have Hb1 := Lib.hid (hb.out.trans hb1)
      clear hb1 HN hcw hw1
      go_wp2_with fail
      go_roundw
      case rel => exact ⟨k + 1, by go_num, by omega, Hw1, Hb1⟩
      case measure => simp [intOf]; omega
    · have hkn : k = l.length := by omega
      have e1 : l.take k = l := by rw [List.take_of_length_le (by omega)]
      obtain ⟨v, h1, h2⟩ := hw.out
      rw [e1] at h2
      have c1 := cell_of_one h1
      have kc := run_toStr_own (P := Try.prog) wr 35 9 5 _ _ v (putNums l) Try.underlying35 Try.underlying5 Try.underlying9 h2
      have Hkn := Lib.hid hkn
      rw [ht.out] at kc
      clear hkn e1 h1 h2
      go_wp2_with fail
      go_ret
      exact ⟨rfl, hb.out⟩

set_option maxHeartbeats 1000000 in
theorem wire_getNumbers (s : List UInt8) (n : Nat) (w : World) (hn : n ≤ 1000000) (hs : s.length ≤ 9223372036854775807) :
    Calls Try.prog 31 #[str s, .int .i64 n] w (GotInts w (full (rdMany n [] s))) := by
  have hmf : ∀ (fn : Fn) (first cap : Array Value) (w : World), (Instr.makeFunc fn first cap).run Try.prog w = .ok (.func fn first cap) w := fun _ _ _ _ => rfl
  have HN := Lib.hid (read_ints w.heap.size n s (w.alloc (.cells #[.int .i64 n] 3)) hn hs (cell_of_one (hp_at _ _ rfl)))
  obtain ⟨res, HR⟩ := hide (full (rdMany n [] s))
  rw [HR.out] at HN ⊢
  go_enter Try.func31, Try.ntmps31
  go_wp2_with fail
  refine HN.out.mono ?_
  intro e w1 hp
  have hb0 : Below w.heap.size w (w.alloc (.cells #[.int .i64 n] 3)) := (Below.refl _ _).alloc (Nat.le_refl _) _
  cases res with
  | error z =>
    obtain ⟨rfl, hb⟩ := hp
    have Hb := Lib.hid (hb0.trans (hb.mono hb0.size))
    clear hb hb0 HN
    go_wp2_with fail
    go_ret2
    exact ⟨rfl, Hb.out⟩
  | ok l =>
    obtain ⟨v, rfl, ho, hb⟩ := hp
    have Ho := Lib.hid (own_base ho hb0.size)
    have Hb := Lib.hid (hb0.trans (hb.mono hb0.size))
    clear hb hb0 HN ho
    go_wp2_with fail
    go_ret2
    exact ⟨v, rfl, Ho.out, Hb.out⟩

end Go.Proofs.Ytjlhlmnoomiblaa
