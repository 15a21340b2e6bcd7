/-
  Numbers, one behind the other, of all bytes: the panicking reader's way. Reading of all bytes, numbers: what the caller gets. Plain laws of the plain readers: what is written comes back; both readers agree. Numbers, one behind the other: both ways of writing them, both ways of reading them, and the law.
-/
import Derived.Test.YtjlhlmnoomiblaaGreatZ09
import Derived.Test.YtjlhlmnoomiblaaGreatZ02
import Derived.Test.YtjlhlmnoomiblaaGreatZ06
import Derived.Deep.QuietTactic
import Derived.BigQuiet
namespace Go.Proofs.YtjlhlmnoomiblaaGreat
open Go.RowKit Wm Mm
set_option linter.unusedVariables false

theorem info_int : (Tryz.prog.info? 3).map (fun i => (i.zero, i.size, i.bytes)) = some (some (.int .i64 0), 1, 8) := by kernel_rfl

/-- how a reading call ends whose result is a slice of numbers, made behind block base -/
def GetsInts (base b : Nat) (w : World) (res : Res (List Nat)) (e : Ending) (w' : World) : Prop :=
  match res with
  | .ok (l, t) => ∃ v, e = .returned v ∧ w'.ownsRow base 3 1 v l.length (l.map vNat) ∧ Rd w' b t ∧ w.grownBy w' (some b)
  | .error z => e = stopped z ∧ w.grownBy w' (some b)

set_option maxHeartbeats 1000000 in
theorem getNumbers_f (b bc n : Nat) (s : List UInt8) (w : World) (hn : n ≤ 1000000) (h : Rd w b s) (hc : w.cell? ⟨bc, 0, none⟩ = some (.int .i64 n)) :
    Calls Tryz.prog 87 #[.pointer (some ⟨b, 0, none⟩), .pointer (some ⟨bc, 0, none⟩)] w (GetsInts w.heap.size b w (rdMany n [] s)) := by
  obtain ⟨res, HR⟩ := hide (rdMany n [] s)
  rw [HR.out]
  have hblt : b < w.heap.size := lt_of_block h.1
  obtain ⟨B, hB⟩ := hide w.heap.size
  have H := Lib.hid h
  rw [hB.out] at hblt ⊢
  go_enter Tryz.func87, Tryz.ntmps87
  go_wp2
  go_loopw [3, 5] (fun v i wr => ∃ k : Nat, ∃ acc : List Nat, ∃ u : List UInt8, i = .int .i64 k ∧ k ≤ n ∧ Hid (acc.length = k) ∧ Hid (Rd wr b u) ∧ Hid (w.grownBy wr (some b)) ∧ Hid (wr.ownsRow B 3 1 v acc.length (acc.map vNat)) ∧ Hid (rdMany (n - k) acc u = res))
    (fun _ i _ => n - (intOf i).toNat)
  case atStart => exact ⟨0, [], s, rfl, Nat.zero_le _, rfl, H, World.grownBy.refl _ _, World.ownsRow_nil _ _ _ _, HR⟩
  case round =>
    obtain ⟨k, acc, u, rfl, hk, hl, hr, hg, ho, hm⟩ := hrel
    by_cases hlt : k < n
    · go_wp2_with fail
      refine (number_rd hr.out).mono ?_
      intro e w1 hp
      have hm2 := hm.out
      rw [show n - k = (n - (k + 1)) + 1 from by omega, rdMany] at hm2
      cases hx : rdNum u with
      | error z =>
        rw [hx] at hp hm2
        obtain ⟨rfl, hg1⟩ := hp
        have Hg := Lib.hid (grown_trans hg.out hg1)
        have e1 : .error z = res := hm2
        subst e1
        clear hg1 hx hm2
        go_wp2_with fail
        exact ⟨rfl, rfl, Hg.out⟩
      | ok p =>
        obtain ⟨x, t⟩ := p
        rw [hx] at hp hm2
        obtain ⟨rfl, hr1, hg1⟩ := hp
        have Hm2 := Lib.hid hm2
        have Hr1 := Lib.hid hr1
        have Hg1 := Lib.hid (grown_trans hg.out hg1)
        have Ho1 := Lib.hid (ho.out.kept hg1 (Or.inr (own_other ho.out hblt).symm))
        have hBs : B ≤ w1.heap.size := by rw [← hB.out]; exact Nat.le_trans hg.out.size hg1.size
        have Hal : Hid (acc.length + 1 ≤ 1000001) := by have := hl.out; show _ ≤ _; omega
        clear hr1 hg1 hm2 hx
        go_wp2_with (at_builtin; refine wpList_push rfl _ _ 25 rfl B 3 (.int .i64 0) 1 8 Tryz.underlying25 info_int rfl (by decide) _ _ _ rfl Ho1.out _ rfl rfl (by intro u hu; simp at hu; subst hu; rfl) (by have := Hal.out; unfold maxLen; omega) (by have := Hal.out; omega) hBs ?_)
        intro v' w2 ho2 hg2
        have Hr2 := Lib.hid (Hr1.out.kept hg2 (own_other Ho1.out hblt))
        have Hg2 := Lib.hid (grown_own Hg1.out Ho1.out (by rw [hB.out]; exact Nat.le_refl _) hg2)
        have Ho2 : Hid (w2.ownsRow B 3 1 v' (acc ++ [x]).length ((acc ++ [x]).map vNat)) := by
          show _
          have e1 : (acc ++ [x]).length = acc.length + 1 := by simp
          have e2 : (acc ++ [x]).map vNat = acc.map vNat ++ [.int .i64 x] := by simp
          rw [e1, e2]; exact ho2
        clear ho2 hg2
        go_wp2_with fail
        go_roundw
        case rel => exact ⟨k + 1, acc ++ [x], t, by go_num, by omega, by have := hl.out; show _ = _; simp [this], Hr2, Hg2, Ho2, Hm2⟩
        case measure => simp [intOf]; omega
    · have hkn : k = n := by omega
      have e1 : .ok (acc, u) = res := by rw [← hm.out, show n - k = 0 from by omega]; rfl
      subst e1
      have Hkn := Lib.hid hkn
      clear hkn
      go_wp2_with fail
      go_ret
      exact ⟨_, rfl, ho.out, hr.out, hg.out⟩
end Go.Proofs.YtjlhlmnoomiblaaGreat

namespace Go.Proofs.YtjlhlmnoomiblaaGreat
open Go.RowKit Wm Mm
set_option linter.unusedVariables false

/-- what a reading of all bytes hands back -/
def GotInts (w : World) (res : Except Int (List Nat)) (e : Ending) (w' : World) : Prop :=
  match res with
  | .ok l => ∃ v, e = .returned (.tuple #[v, .int .i64 0]) ∧ w'.ownsRow w.heap.size 3 1 v l.length (l.map vNat) ∧ Below w.heap.size w w'
  | .error z => e = .returned (.tuple #[.slice none 0 0, .int .i64 z]) ∧ Below w.heap.size w w'

set_option maxHeartbeats 1000000 in
theorem read_ints (bc n : Nat) (s : List UInt8) (w : World) (hn : n ≤ 1000000) (hs : s.length ≤ 9223372036854775807) (hc : w.cell? ⟨bc, 0, none⟩ = some (.int .i64 n)) :
    Calls Tryz.prog 86 #[str s, .func (.func 87) #[] #[.pointer (some ⟨bc, 0, none⟩)]] w (GotInts w (full (rdMany n [] s))) := by
  have hmf : ∀ (fn : Fn) (first cap : Array Value) (w : World), (Instr.makeFunc fn first cap).run Tryz.prog w = .ok (.func fn first cap) w := fun _ _ _ _ => rfl
  have hbc : bc < w.heap.size := World.block_lt_of_cell? _ _ hc
  obtain ⟨res, HR⟩ := hide (rdMany n [] s)
  rw [HR.out]
  go_enter_defers Tryz.func86, Tryz.ntmps86
  go_wp2_with fail
  obtain ⟨W3, hW⟩ := hide (((w.alloc (.cells #[.slice none 0 0] 25)).alloc (.cells #[.int .i64 0] 44)).alloc (.cells #[str s] 93))
  rw [hW.out]
  have Hx : Hid (W3.heap[w.heap.size]? = some (.cells #[.slice none 0 0] 25 (0, 0))) := by
    rw [← hW.out]; exact (hp_past _ _ (by simp only [World.size_alloc]; omega)).trans ((hp_past _ _ (by simp only [World.size_alloc]; omega)).trans (hp_at _ _ rfl))
  have He : Hid (W3.heap[w.heap.size + 1]? = some (.cells #[.int .i64 0] 44 (0, 0))) := by
    rw [← hW.out]; exact (hp_past _ _ (by simp only [World.size_alloc]; omega)).trans (hp_at _ _ (by simp only [World.size_alloc]))
  have Hr : Hid (Rd W3 (w.heap.size + 1 + 1) s) := by
    rw [← hW.out]; exact ⟨hp_at _ _ (by simp only [World.size_alloc]), hs⟩
  have Hb : Hid (Below w.heap.size w W3) := by
    rw [← hW.out]
    exact (((Below.refl _ _).alloc (Nat.le_refl _) _).alloc (by simp) _).alloc (by simp; omega) _
  have hc3 : W3.cell? ⟨bc, 0, none⟩ = some (.int .i64 n) := by rw [Hb.out.cell (p := ⟨bc, 0, none⟩) hbc]; exact hc
  have hsz : W3.heap.size = w.heap.size + 3 := by rw [← hW.out]; simp
  have Hsz := Lib.hid hsz
  refine (getNumbers_f (w.heap.size + 1 + 1) bc n s W3 hn Hr.out hc3).mono ?_
  rw [HR.out]
  clear hc hc3 hsz
  intro e w1 hp
  cases res with
  | error z =>
    obtain ⟨rfl, hg⟩ := hp
    have hx1 := (hg.block w.heap.size (by rw [Hsz.out]; omega) (by simp; omega)).trans Hx.out
    have he1 := (hg.block (w.heap.size + 1) (by rw [Hsz.out]; omega) (by simp)).trans He.out
    have hb1 : Below w.heap.size w w1 := Hb.out.trans ⟨hg.os, hg.tape, hg.output, hg.size, fun k hk => hg.block k (by rw [Hsz.out]; omega) (by simp; omega)⟩
    have Hx1 := Lib.hid hx1
    have He1 := Lib.hid he1
    have Hb1 := Lib.hid hb1
    clear hg hx1 he1 hb1
    go_wp2_with fail
    refine leaves_cons (f := 102) (args := #[.pointer (some ⟨w.heap.size, 0, none⟩), .pointer (some ⟨w.heap.size + 1, 0, none⟩)]) (by simp) (by simp [go_sem]) ?_
    refine (catch_ints w.heap.size _ 0 z w1 Hx1.out He1.out).mono ?_
    rintro e u' w2 ⟨rfl, rfl, hx2, he2, hb2⟩
    have c1 := cell_of_one hx2
    have c2 := cell_of_one he2
    have Hb2 := Lib.hid (Hb1.out.trans hb2)
    clear hx2 he2 hb2
    simp [Leaves, settle, results, Tryz.results86, go_sem, c1, c2, GotInts, full]
    exact Hb2.out
  | ok p =>
    obtain ⟨l, t⟩ := p
    obtain ⟨v, rfl, ho, hr1, hg⟩ := hp
    obtain ⟨ao, co, rfl⟩ := owns_slice ho
    have hx1 := (hg.block w.heap.size (by rw [Hsz.out]; omega) (by simp; omega)).trans Hx.out
    have he1 := (hg.block (w.heap.size + 1) (by rw [Hsz.out]; omega) (by simp)).trans He.out
    have hb1 : Below w.heap.size w w1 := Hb.out.trans ⟨hg.os, hg.tape, hg.output, hg.size, fun k hk => hg.block k (by rw [Hsz.out]; omega) (by simp; omega)⟩
    have cx := cell_of_one hx1
    have fx := free_of_one hx1
    have cr := hr1.cell
    have fe := free_of_one he1
    have ce := cell_of_one he1
    have Hx1 := Lib.hid hx1
    have He1 := Lib.hid he1
    have Hb1 := Lib.hid hb1
    have Ho := Lib.hid ho
    clear hg hx1 he1 hb1 ho hr1
    cases t with
    | cons y t =>
      go_wp2_with (go_at_call 53; refine (fail_any _ _).mono ?_; rintro e w' ⟨rfl, rfl⟩)
      refine leaves_cons (f := 102) (args := #[.pointer (some ⟨w.heap.size, 0, none⟩), .pointer (some ⟨w.heap.size + 1, 0, none⟩)]) (by simp) (by simp [go_sem]) ?_
      refine (catch_ints w.heap.size _ 0 1 _ (one_setCell Hx1.out) (hp_set_other He1.out (by simp))).mono ?_
      rintro e u' w2 ⟨rfl, rfl, hx2, he2, hb2⟩
      have c1 := cell_of_one hx2
      have c2 := cell_of_one he2
      have Hb2 := Lib.hid ((Hb1.out.setCell (p := ⟨w.heap.size, 0, none⟩) (Nat.le_refl _) (.slice ao l.length co)).trans hb2)
      clear hx2 he2 hb2
      simp [Leaves, settle, results, Tryz.results86, go_sem, c1, c2, GotInts, full]
      exact Hb2.out
    | nil =>
      go_wp2_with fail
      rw [setCell_twice]
      have hx2 := one_setCell (u := .slice ao l.length co) Hx1.out
      have he2 := hp_set_other (a := ⟨w.heap.size, 0, none⟩) (v := .slice ao l.length co) He1.out (by simp)
      have he3 := one_setCell (u := .int .i64 0) he2
      have hx3 := hp_set_other (a := ⟨w.heap.size + 1, 0, none⟩) (v := .int .i64 0) hx2 (by simp)
      have hb3 := (Hb1.out.setCell (p := ⟨w.heap.size, 0, none⟩) (Nat.le_refl _) (.slice ao l.length co)).setCell (p := ⟨w.heap.size + 1, 0, none⟩) (Nat.le_succ _) (.int .i64 0)
      have hlt := (Ho.out).lt
      have ho3 := ownsRow_setCell_other (ownsRow_setCell_other Ho.out (a := ⟨w.heap.size, 0, none⟩) (fun e => by have := (hlt _ e).1; have := Hsz.out; simp at *; omega) (.slice ao l.length co)) (a := ⟨w.heap.size + 1, 0, none⟩) (fun e => by have := (hlt _ e).1; have := Hsz.out; simp at *; omega) (.int .i64 0)
      obtain ⟨W4, hW4⟩ := hide ((w1.setCell ⟨w.heap.size, 0, none⟩ (.slice ao l.length co)).setCell ⟨w.heap.size + 1, 0, none⟩ (.int .i64 0))
      rw [hW4.out] at he3 hx3 hb3 ho3 ⊢
      refine leaves_cons (f := 102) (args := #[.pointer (some ⟨w.heap.size, 0, none⟩), .pointer (some ⟨w.heap.size + 1, 0, none⟩)]) (by simp) (by simp [go_sem]) ?_
      refine (idle_ints _ _ _).mono ?_
      rintro e u' w2 ⟨rfl, rfl, rfl⟩
      have c1 := cell_of_one ((hp_past W4 (.cells #[.int .i64 0] 89) (fun e => by have := lt_of_block hx3; omega)).trans hx3)
      have c2 := cell_of_one ((hp_past W4 (.cells #[.int .i64 0] 89) (fun e => by have := lt_of_block he3; omega)).trans he3)
      refine ⟨_, by simp [results, Tryz.results86, go_sem, c1, c2]; rfl, ?_⟩
      refine ⟨_, rfl, own_base (ho3.alloc _) (by rw [Hsz.out]; omega), hb3.alloc hb3.size _⟩
end Go.Proofs.YtjlhlmnoomiblaaGreat

namespace Go.Proofs.YtjlhlmnoomiblaaGreat.Wm
set_option linter.unusedSimpArgs false
set_option linter.unusedVariables false

theorem rdNumAt_put (n : Nat) : ∀ (i a : Nat) (s : List UInt8), a + n * 2 ^ (7 * i) ≤ 1099511627775 → (0 < i → 0 < n) → rdNumAt i a (putNum n ++ s) = .ok (a + n * 2 ^ (7 * i), s) := by
  induction n using Nat.strongRecOn with
  | ind n ih =>
    intro i a s hle hpos
    have h5 : ¬ 5 < i := by
      intro h
      have hn := hpos (by omega)
      have h1 : 2 ^ 42 ≤ 2 ^ (7 * i) := Nat.pow_le_pow_right (by decide) (by omega)
      have h2 : 1 * 2 ^ (7 * i) ≤ n * 2 ^ (7 * i) := Nat.mul_le_mul_right _ hn
      have h3 : (2 : Nat) ^ 42 = 4398046511104 := by decide
      omega
    by_cases hn : n < 128
    · have e1 : (UInt8.ofNat n).toNat = n := by rw [UInt8.toNat_ofNat']; omega
      have e2 : (UInt8.ofNat n).toNat % 128 = n := by omega
      rw [putNum_small hn, List.singleton_append, rdNumAt, e2, if_neg, if_pos (by omega)]
      rintro (⟨h, h0⟩ | h | h)
      · have := hpos h; omega
      · omega
      · exact h5 h
    · have e1 : (UInt8.ofNat (128 + n % 128)).toNat = 128 + n % 128 := by rw [UInt8.toNat_ofNat']; omega
      have e2 : (UInt8.ofNat (128 + n % 128)).toNat % 128 = n % 128 := by omega
      have hsum : a + n % 128 * 2 ^ (7 * i) + n / 128 * 2 ^ (7 * (i + 1)) = a + n * 2 ^ (7 * i) := by
        have hp : 2 ^ (7 * (i + 1)) = 128 * 2 ^ (7 * i) := by rw [show 7 * (i + 1) = 7 * i + 7 from by omega, Nat.pow_add, Nat.mul_comm]
        have hd : n % 128 + n / 128 * 128 = n := by omega
        rw [hp, ← Nat.mul_assoc, Nat.add_assoc, ← Nat.add_mul, hd]
      have hrec := ih (n / 128) (by omega) (i + 1) (a + n % 128 * 2 ^ (7 * i)) s (by rw [hsum]; exact hle) (fun _ => by omega)
      rw [putNum_big hn, List.cons_append, rdNumAt, e2, if_neg, if_neg (by omega), hrec, hsum]
      rintro (⟨h, h0⟩ | h | h)
      · omega
      · have : n % 128 * 2 ^ (7 * i) ≤ n * 2 ^ (7 * i) := Nat.mul_le_mul_right _ (Nat.mod_le _ _)
        omega
      · exact h5 h
theorem rdNum_put {n : Nat} (h : n ≤ 1099511627775) (s : List UInt8) : rdNum (putNum n ++ s) = .ok (n, s) := by
  have := rdNumAt_put n 0 0 s (by simpa using h) (fun h => absurd h (Nat.lt_irrefl 0))
  simpa [rdNum] using this
theorem rdTake_append (a s : List UInt8) : rdTake a.length (a ++ s) = .ok (a, s) := by simp [rdTake]
theorem rdUpTo_put {n most : Nat} (h : n ≤ 1099511627775) (hm : n ≤ most) (s : List UInt8) : rdUpTo most (putNum n ++ s) = .ok (n, s) := by
  rw [rdUpTo, rdNum_put h]
  simp only [if_neg (Nat.not_lt.2 hm)]
theorem rdText_put {most : Nat} (x : List UInt8) (h : x.length ≤ 1099511627775) (hm : x.length ≤ most) (s : List UInt8) : rdText most (putText x ++ s) = .ok (x, s) := by
  rw [rdText, putText, List.append_assoc, rdUpTo_put h hm]
  exact rdTake_append x s
theorem rdMany_put (l : List Nat) : ∀ (acc : List Nat) (s : List UInt8), (∀ n ∈ l, n ≤ 1099511627775) → rdMany l.length acc (l.flatMap putNum ++ s) = .ok (acc ++ l, s) := by
  induction l with
  | nil => intro acc s _; simp [rdMany]
  | cons n l ih =>
    intro acc s h
    rw [List.flatMap_cons, List.append_assoc, List.length_cons, rdMany, rdNum_put (h n (List.mem_cons_self ..))]
    simp only []
    rw [ih (acc ++ [n]) s (fun m hm => h m (List.mem_cons_of_mem _ hm))]
    simp

/-- what the plain reader's loop comes to -/
def manyS : Nat → List Nat → St → List Nat × St
  | 0, acc, σ => (acc, σ)
  | k + 1, acc, σ => manyS k (acc ++ [stepV 0 rdNum σ]) (stepS rdNum σ)
theorem manyS_error (k : Nat) : ∀ (acc : List Nat) (z : Int), (manyS k acc (.error z)).2 = .error z := by
  induction k with
  | zero => intro acc z; rfl
  | succ k ih => intro acc z; rw [manyS]; exact ih _ _
theorem manyS_ok (k : Nat) : ∀ (acc : List Nat) (s : List UInt8), match rdMany k acc s with
    | .ok (l, t) => manyS k acc (.ok s) = (l, .ok t)
    | .error z => (manyS k acc (.ok s)).2 = .error z := by
  induction k with
  | zero => intro acc s; rfl
  | succ k ih =>
    intro acc s
    match h : rdNum s with
    | .error z =>
      simp only [rdMany, h]
      rw [manyS]
      simp only [stepS, h, rstOf]
      exact manyS_error k _ z
    | .ok (x, t) =>
      simp only [rdMany, h, manyS, stepV, stepS, rvalOf, rstOf]
      exact ih _ _
theorem rdNumAt_err {i n : Nat} {s : List UInt8} {z : Int} (h : rdNumAt i n s = .error z) : z ≠ 0 := by
  induction s generalizing i n with
  | nil => simp [rdNumAt] at h; omega
  | cons c s ih =>
    rw [rdNumAt] at h
    split at h
    · cases h; decide
    · split at h
      · cases h
      · exact ih h
theorem rdNum_err {s : List UInt8} {z : Int} (h : rdNum s = .error z) : z ≠ 0 := rdNumAt_err h
theorem rdMany_err {k : Nat} : ∀ {acc : List Nat} {s : List UInt8} {z : Int}, rdMany k acc s = .error z → z ≠ 0 := by
  induction k with
  | zero => intro acc s z h; cases h
  | succ k ih =>
    intro acc s z h
    match h1 : rdNum s with
    | .error y =>
      simp only [rdMany, h1] at h
      cases h
      exact rdNum_err h1
    | .ok (x, t) =>
      simp only [rdMany, h1] at h
      exact ih h
theorem many_same (n : Nat) (s : List UInt8) :
    (match endS (manyS n [] (.ok s)).2 with | 0 => Except.ok (manyS n [] (.ok s)).1 | z => Except.error z) = full (rdMany n [] s) := by
  have h := manyS_ok n [] s
  match hm : rdMany n [] s with
  | .error z =>
    rw [hm] at h
    have hz := rdMany_err hm
    simp only [h, endS, full]
    try (split <;> first | rfl | (rename_i h0; exact absurd h0 hz))
  | .ok (l, t) =>
    rw [hm] at h
    simp only [h, full]
    cases t with
    | nil => rfl
    | cons c t => rfl

end Go.Proofs.YtjlhlmnoomiblaaGreat.Wm

namespace Go.Proofs.YtjlhlmnoomiblaaGreat
open Go.RowKit Wm Mm
set_option linter.unusedVariables false

def putNums (l : List Nat) : List UInt8 := l.flatMap putNum
theorem putNums_len (l : List Nat) (h : ∀ n ∈ l, n < 9223372036854775808) : (putNums l).length ≤ 9 * l.length := by
  induction l with
  | nil => simp [putNums]
  | cons n l ih =>
    have h1 := putNum_len10 (h n (List.mem_cons_self ..))
    have h2 := ih (fun m hm => h m (List.mem_cons_of_mem _ hm))
    simp [putNums] at *
    omega
theorem putNums_snoc (l : List Nat) (n : Nat) : putNums (l ++ [n]) = putNums l ++ putNum n := by simp [putNums]
theorem take_snoc {α : Type} (l : List α) (k : Nat) (h : k < l.length) : l.take (k + 1) = l.take k ++ [l[k]] := by
  rw [List.take_succ_eq_append_getElem h]
abbrev ints (l : List Nat) : List Int := l.map (fun n : Nat => (n : Int))

theorem ints_ne {l : List Nat} {k : Nat} (h : k < l.length) : ints l ≠ [] := by
  cases l with
  | nil => simp at h
  | cons _ _ => simp

set_option maxHeartbeats 1000000 in
theorem wire_putNumbers (v : Value) (l : List Nat) (w : World) (hv : Ints w v (ints l)) (hl : ∀ n ∈ l, n < 9223372036854775808) (hn : l.length ≤ 1000000) :
    Calls Tryz.prog 46 #[v] w fun e w' => e = .returned (str (putNums l)) ∧ Below w.heap.size w w' := by
  obtain ⟨tot, ht⟩ := hide (putNums l)
  rw [ht.out]
  obtain ⟨ao, cap, rfl, hc, hm⟩ := hv
  have HL := Lib.hid hl
  have HC := Lib.hid hc
  have hlen : (ints l).length = l.length := by simp
  rw [hlen]
  clear hl hc hm hlen
  go_enter Tryz.func46, Tryz.ntmps46
  go_wp2
  go_loopw [10] (fun i wr => ∃ k : Nat, i = .int .i64 k ∧ k ≤ l.length ∧ Hid (Wr wr w.heap.size (putNums (l.take k))) ∧ Hid (Below w.heap.size w wr)) (fun i _ => l.length - (intOf i).toNat)
  case atStart =>
    refine ⟨0, rfl, Nat.zero_le _, ?_, (Below.refl _ _).alloc (Nat.le_refl _) _⟩
    exact ⟨.slice none 0 0, hp_at _ _ rfl, World.ownsRow_nil _ _ _ _⟩
  case round =>
    obtain ⟨k, rfl, hk, hw, hb⟩ := hrel
    by_cases hlt : k < l.length
    · obtain ⟨b, off, rfl, hcell⟩ := HC.out (ints_ne hlt)
      have hcell := hcell k (l[k] : Nat) (by simp [hlt])
      have hcw : wr.cell? ⟨b, off + k, none⟩ = some (.int .i64 (l[k] : Nat)) := by
        rw [hb.out.cell (p := ⟨b, off + k, none⟩) (World.block_lt_of_cell? _ _ hcell)]; exact hcell
      have hx : l[k] < 9223372036854775808 := HL.out _ (List.getElem_mem _)
      have hsn : putNums (l.take (k + 1)) = putNums (l.take k) ++ putNum l[k] := by rw [take_snoc l k hlt, putNums_snoc]
      have hl1 : (putNums (l.take k)).length ≤ 9000000 := by
        have := putNums_len (l.take k) (fun n hn => HL.out n (List.mem_of_mem_take hn))
        have h2 : (l.take k).length ≤ l.length := by simp; omega
        omega
      have HN := Lib.hid (writer_number l[k] hx (by omega) hw.out)
      rw [← hsn] at HN
      obtain ⟨x, hX⟩ := hide l[k]
      rw [hX.out] at hcw HN
      clear hcell hsn hl1
      go_wp2_with fail
      refine HN.out.mono ?_
      rintro e w1 ⟨rfl, hw1, hb1⟩
      have Hw1 := Lib.hid hw1
      have Hb1 := Lib.hid (hb.out.trans hb1)
      clear hb1 HN hcw hw1
      go_wp2_with fail
      go_roundw
      case rel => exact ⟨k + 1, by go_num, by omega, Hw1, Hb1⟩
      case measure => simp [intOf]; omega
    · have hkn : k = l.length := by omega
      have e1 : l.take k = l := by rw [List.take_of_length_le (by omega)]
      obtain ⟨v, h1, h2⟩ := hw.out
      rw [e1] at h2
      have c1 := cell_of_one h1
      have kc := run_toStr_own (P := Tryz.prog) wr 98 9 5 _ _ v (putNums l) Tryz.underlying98 Tryz.underlying5 Tryz.underlying9 h2
      have Hkn := Lib.hid hkn
      rw [ht.out] at kc
      clear hkn e1 h1 h2
      go_wp2_with fail
      go_ret
      exact ⟨rfl, hb.out⟩

set_option maxHeartbeats 1000000 in
theorem wire_getNumbers (s : List UInt8) (n : Nat) (w : World) (hn : n ≤ 1000000) (hs : s.length ≤ 9223372036854775807) :
    Calls Tryz.prog 54 #[str s, .int .i64 n] w (GotInts w (full (rdMany n [] s))) := by
  have hmf : ∀ (fn : Fn) (first cap : Array Value) (w : World), (Instr.makeFunc fn first cap).run Tryz.prog w = .ok (.func fn first cap) w := fun _ _ _ _ => rfl
  have HN := Lib.hid (read_ints w.heap.size n s (w.alloc (.cells #[.int .i64 n] 3)) hn hs (cell_of_one (hp_at _ _ rfl)))
  obtain ⟨res, HR⟩ := hide (full (rdMany n [] s))
  rw [HR.out] at HN ⊢
  go_enter Tryz.func54, Tryz.ntmps54
  go_wp2_with fail
  refine HN.out.mono ?_
  intro e w1 hp
  have hb0 : Below w.heap.size w (w.alloc (.cells #[.int .i64 n] 3)) := (Below.refl _ _).alloc (Nat.le_refl _) _
  cases res with
  | error z =>
    obtain ⟨rfl, hb⟩ := hp
    have Hb := Lib.hid (hb0.trans (hb.mono hb0.size))
    clear hb hb0 HN
    go_wp2_with fail
    go_ret2
    exact ⟨rfl, Hb.out⟩
  | ok l =>
    obtain ⟨v, rfl, ho, hb⟩ := hp
    have Ho := Lib.hid (own_base ho hb0.size)
    have Hb := Lib.hid (hb0.trans (hb.mono hb0.size))
    clear hb hb0 HN ho
    go_wp2_with fail
    go_ret2
    exact ⟨v, rfl, Ho.out, Hb.out⟩

end Go.Proofs.YtjlhlmnoomiblaaGreat
