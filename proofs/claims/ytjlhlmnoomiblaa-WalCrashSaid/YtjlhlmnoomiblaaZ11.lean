/-
  The reader that panics: its small methods, walked. Each call is shown to give what the plain reader gives, or to panic with its error. The reader that keeps its first error: its small methods, walked. A deferred call that begins with recover: the rest of its text is walked as any other. What a reading of all bytes comes to: the deferred catch, and the reading itself.
-/
import Derived.Test.YtjlhlmnoomiblaaZ01
import Derived.WalkKit
import Derived.WalkSpells
import Derived.WalkLawsBesides
import Derived.Lib.Hide
import Derived.Deep.QuietTactic
import Derived.BigQuiet
import Derived.Test.YtjlhlmnoomiblaaZ00
namespace Go.Proofs.Ytjlhlmnoomiblaa
open Go.RowKit Wm Mm
set_option linter.unusedVariables false

abbrev stopped (n : Int) : Ending := .panicked [{ v := .iface 76 (.agg #[.int .i64 n]), recovered := false }]

set_option maxHeartbeats 400000 in
theorem fail_any (n : Int) (w : World) :
    Calls Try.prog 30 #[.int .i64 n] w fun e w' => e = stopped n ∧ w = w' := by
  go_enter Try.func30, Try.ntmps30
  go_wp2
  exact ⟨rfl, rfl, rfl⟩

set_option maxHeartbeats 400000 in
theorem take_ok (r : Addr) (s : List UInt8) (n : Nat) (w : World) (hr : w.cell? r = some (str s)) (hf : w.frozen? r = false) (hn : n ≤ s.length) (hs : s.length ≤ 9223372036854775807) :
    Calls Try.prog 28 #[.pointer (some r), .int .i64 n] w fun e w' => e = .returned (str (s.take n)) ∧ w.setCell r (str (s.drop n)) = w' := by
  go_enter Try.func28, Try.ntmps28
  go_wp2
  go_ret
  exact ⟨rfl, rfl⟩

set_option maxHeartbeats 400000 in
theorem take_short (r : Addr) (s : List UInt8) (n : Int) (w : World) (hr : w.cell? r = some (str s)) (hf : w.frozen? r = false) (hn : s.length < n) (hs : s.length ≤ 9223372036854775807) :
    Calls Try.prog 28 #[.pointer (some r), .int .i64 n] w fun e w' => e = stopped 3 ∧ w = w' := by
  go_enter Try.func28, Try.ntmps28
  go_wp2_with (go_at_call 30; refine (fail_any _ _).mono ?_; rintro e w' ⟨rfl, rfl⟩)
  exact ⟨rfl, rfl, rfl⟩

/-- how a reader's method ends -/
def Reads {α : Type} (r : Addr) (w : World) (V : α → Value) (res : Res α) (e : Ending) (w' : World) : Prop :=
  match res with
  | .ok (x, t) => e = .returned (V x) ∧ w.setCell r (str t) = w'
  | .error z => e = stopped z ∧ ∃ t, w.setCell r (str t) = w'

set_option maxHeartbeats 1000000 in
theorem number_any (r : Addr) (s : List UInt8) (w : World) (hr : w.cell? r = some (str s)) (hf : w.frozen? r = false) (hs : s.length ≤ 9223372036854775807) :
    Calls Try.prog 47 #[.pointer (some r)] w (Reads r w vNat (rdNum s)) := by
  obtain ⟨res, hres⟩ : ∃ res, rdNum s = res := ⟨_, rfl⟩
  rw [hres]
  have HR := Lib.hid hres
  clear hres
  go_enter Try.func47, Try.ntmps47
  go_wp2
  go_loopw [2, 3] (fun n sh wr => ∃ k a : Nat, ∃ u : List UInt8, n = .int .i64 a ∧ sh = .int .i64 (7 * k : Nat) ∧ wr = w.setCell r (str u) ∧ Hid (rdNumAt k a u = res) ∧ Hid (a < 2 ^ (7 * k)) ∧ k ≤ 6 ∧ u.length ≤ 9223372036854775807)
    (fun _ sh _ => 42 - (intOf sh).toNat)
  case atStart => exact ⟨0, 0, s, rfl, rfl, (setCell_self hr).symm, HR, by show 0 < 2 ^ 0; decide, by decide, hs⟩
  case round =>
    obtain ⟨k, a, u, rfl, rfl, rfl, hrd, ha, hk, hu⟩ := hrel
    have hr1 : (w.setCell r (str u)).cell? r = some (str u) := World.cell?_setCell_same w r _ hr
    have hf1 : (w.setCell r (str u)).frozen? r = false := by simpa using hf
    cases u with
    | nil =>
      have e1 : res = .error 3 := by rw [← hrd.out]; rfl
      go_wp2_with fail
      refine (take_short r [] 1 _ hr1 hf1 (by simp) hu).mono ?_
      rintro e w' ⟨rfl, rfl⟩
      go_wp2_with fail
      subst e1
      exact ⟨rfl, rfl, _, rfl⟩
    | cons c u =>
      have hc := c.toNat_lt
      obtain ⟨m, hm⟩ : ∃ m : Nat, c.toNat % 128 * 2 ^ (7 * k) = m := ⟨_, rfl⟩
      have hp : 2 ^ (7 * k) ≤ 2 ^ 42 := Nat.pow_le_pow_right (by decide) (by omega)
      have hm2 : m ≤ 127 * 2 ^ (7 * k) := by rw [← hm]; exact Nat.mul_le_mul_right _ (by omega)
      have ha2 := ha.out
      have Hq1 := ha2
      have Hq2 := hm2
      have hw1 : wrap64 ((c.toNat : Int) % 128 * 2 ^ (7 * k)) = (m : Int) := by
        have e : (c.toNat : Int) % 128 * 2 ^ (7 * k) = (m : Int) := by rw [← hm]; push_cast; rfl
        rw [e]; exact IntWalk.wrap64_in _ ⟨by omega, by omega⟩
      have hor : bits .or .i64 (a : Int) (m : Int) = ((a + m : Nat) : Int) := i64_or_add a m (7 * k) ha2 (by rw [← hm]; exact Nat.mul_mod_left _ _) (by omega)
      have hnext : a + m < 2 ^ (7 * (k + 1)) := by
        have : 2 ^ (7 * (k + 1)) = 2 ^ (7 * k) * 128 := by rw [show 7 * (k + 1) = 7 * k + 7 from by omega, Nat.pow_add]
        have h1 := Hq1
        have h2 := Hq2
        rw [this]
        omega
      have hb1 : bits .and .u8 (c.toNat : Int) 127 = ((c.toNat % 128 : Nat) : Int) := by
        have := u8_and_nat c.toNat 127 c.toNat_lt (by decide)
        rw [nat_mask7] at this
        exact this
      have hrd2 : (if (0 < k ∧ c.toNat = 0) ∨ 1099511627775 < a + m ∨ 5 < k then .error 1 else if c.toNat < 128 then .ok (a + m, u) else rdNumAt (k + 1) (a + m) u) = res := by
        rw [← hrd.out, rdNumAt, hm]
      have Hm := Lib.hid hm
      have Ha := Lib.hid ha2
      have Hp := Lib.hid hp
      have Hm2 := Lib.hid hm2
      have Hn := Lib.hid hnext
      have Hrd := Lib.hid hrd2
      clear Hq1 Hq2 hm ha2 hp hm2 hnext hrd2 hrd ha
      go_wp2_with fail
      refine (take_ok r (c :: u) 1 _ hr1 hf1 (by simp) hu).mono ?_
      rintro e w' ⟨rfl, rfl⟩
      dsimp only
      rw [setCell_twice]
      clear hr1 hf1
      by_cases hz : 0 < k ∧ c.toNat = 0
      · obtain ⟨hk0, hc0⟩ := hz
        have e1 : res = .error 1 := by rw [← Hrd.out, if_pos (Or.inl ⟨hk0, hc0⟩)]
        go_wp2_with (go_at_call 30; refine (fail_any _ _).mono ?_; rintro e w' ⟨rfl, rfl⟩)
        subst e1
        exact ⟨rfl, rfl, u, rfl⟩
      by_cases hbig : 1099511627775 < a + m
      · have e1 : res = .error 1 := by rw [← Hrd.out, if_pos (Or.inr (Or.inl hbig))]
        have hbig' : (1099511627775 : Int) < (a : Int) + (m : Int) := by omega
        by_cases hk0 : 0 < k
        · 
          have hc0 : ((c.toNat : Int) == 0) = false := beq_eq_false_iff_ne.2 (by omega)
          go_wp2_with (go_at_call 30; refine (fail_any _ _).mono ?_; rintro e w' ⟨rfl, rfl⟩)
          subst e1
          exact ⟨rfl, rfl, u, rfl⟩
        · obtain rfl : k = 0 := by omega
          exfalso
          have h1 := Ha.out
          have h2 := Hm2.out
          simp at h1 h2
          omega
      have hbF : decide ((1099511627775 : Int) < (a : Int) + (m : Int)) = false := decide_eq_false (by omega)
      by_cases h5 : 5 < k
      · have e1 : res = .error 1 := by rw [← Hrd.out, if_pos (Or.inr (Or.inr h5))]
        have hs0 : decide ((0 : Int) < 7 * (k : Int)) = true := decide_eq_true (by omega)
        have hs35 : decide ((35 : Int) < 7 * (k : Int)) = true := decide_eq_true (by omega)
        have hc0 : ((c.toNat : Int) == 0) = false := beq_eq_false_iff_ne.2 (by omega)
        go_wp2_with (go_at_call 30; refine (fail_any _ _).mono ?_; rintro e w' ⟨rfl, rfl⟩)
        subst e1
        exact ⟨rfl, rfl, u, rfl⟩
      have hcz : 0 < k → ((c.toNat : Int) == 0) = false := fun h => beq_eq_false_iff_ne.2 (by omega)
      have hrd3 : (if c.toNat < 128 then .ok (a + m, u) else rdNumAt (k + 1) (a + m) u) = res := by
        have h := Hrd.out
        rw [if_neg (fun h => h.elim hz (fun h => h.elim hbig (fun h => by omega)))] at h
        exact h
      have Hrd3 := Lib.hid hrd3
      clear hrd3
      have hs35 : decide ((35 : Int) < 7 * (k : Int)) = false := decide_eq_false (by omega)
      clear hbig hz
      by_cases hk0 : 0 < k
      · have hs0 : decide ((0 : Int) < 7 * (k : Int)) = true := decide_eq_true (by omega)
        have hc0 : ((c.toNat : Int) == 0) = false := hcz hk0
        clear hcz
        by_cases hc128 : c.toNat < 128
        · have e1 : res = .ok (a + m, u) := by rw [← Hrd3.out, if_pos hc128]
          have hcd : decide ((c.toNat : Int) < 128) = true := decide_eq_true (by omega)
          go_wp2_with fail
          go_ret
          subst e1
          exact ⟨by simp, rfl⟩
        · have e1 : rdNumAt (k + 1) (a + m) u = res := by rw [← Hrd3.out, if_neg hc128]
          have hcd : decide ((c.toNat : Int) < 128) = false := decide_eq_false (by omega)
          have E1 := Lib.hid e1
          clear e1
          go_wp2_with fail
          go_roundw
          case rel => exact ⟨k + 1, a + m, u, by go_num, by go_num, rfl, E1, Hn, by omega, by simp at hu; omega⟩
          case measure => simp [intOf]; omega
      · obtain rfl : k = 0 := by omega
        obtain rfl : c.toNat % 128 = m := by have := Hm.out; simpa using this
        have hor0 : bits .or .i64 (a : Int) ((c.toNat : Int) % 128) = ((a + c.toNat % 128 : Nat) : Int) := by simpa using hor
        have hbF0 : decide ((1099511627775 : Int) < (a : Int) + (c.toNat : Int) % 128) = false := decide_eq_false (by have := of_decide_eq_false hbF; omega)
        clear hcz hs35 hor hw1 hbF
        by_cases hc128 : c.toNat < 128
        · have e1 : res = .ok (a + c.toNat % 128, u) := by rw [← Hrd3.out, if_pos hc128]
          have hcd : decide ((c.toNat : Int) < 128) = true := decide_eq_true (by omega)
          go_wp2_with fail
          go_ret
          subst e1
          exact ⟨by simp, rfl⟩
        · have e1 : rdNumAt (0 + 1) (a + c.toNat % 128) u = res := by rw [← Hrd3.out, if_neg hc128]
          have hcd : decide ((c.toNat : Int) < 128) = false := decide_eq_false (by omega)
          have E1 := Lib.hid e1
          clear e1
          go_wp2_with fail
          go_roundw
          case rel => exact ⟨0 + 1, a + c.toNat % 128, u, by go_num, by go_num, rfl, E1, Hn, by omega, by simp at hu; omega⟩
          case measure => simp [intOf]

/-- the reader in block b has the text s left -/
def Rd (w : World) (b : Nat) (s : List UInt8) : Prop := w.heap[b]? = some (.cells #[str s] 80 (0, 0)) ∧ s.length ≤ 9223372036854775807
theorem Rd.cell {w : World} {b : Nat} {s : List UInt8} (h : Rd w b s) : w.cell? ⟨b, 0, none⟩ = some (str s) := cell_of_one h.1
theorem Rd.free {w : World} {b : Nat} {s : List UInt8} (h : Rd w b s) : w.frozen? ⟨b, 0, none⟩ = false := free_of_one h.1
theorem Rd.set {w : World} {b : Nat} {s : List UInt8} (h : Rd w b s) (t : List UInt8) (ht : t.length ≤ 9223372036854775807) :
    Rd (w.setCell ⟨b, 0, none⟩ (str t)) b t ∧ w.grownBy (w.setCell ⟨b, 0, none⟩ (str t)) (some b) :=
  ⟨⟨one_setCell h.1, ht⟩, grown_setCell _ _ _⟩

/-- how a reading call ends -/
def Gets {α : Type} (b : Nat) (w : World) (V : α → Value) (res : Res α) (e : Ending) (w' : World) : Prop :=
  match res with
  | .ok (x, t) => e = .returned (V x) ∧ Rd w' b t ∧ w.grownBy w' (some b)
  | .error z => e = stopped z ∧ w.grownBy w' (some b)

theorem number_rd {b : Nat} {s : List UInt8} {w : World} (h : Rd w b s) :
    Calls Try.prog 47 #[.pointer (some ⟨b, 0, none⟩)] w (Gets b w vNat (rdNum s)) := by
  refine (number_any ⟨b, 0, none⟩ s w h.cell h.free h.2).mono ?_
  intro e w' hp
  cases hx : rdNum s with
  | ok p =>
    obtain ⟨x, t⟩ := p
    rw [hx] at hp
    obtain ⟨rfl, rfl⟩ := hp
    exact ⟨rfl, h.set t (Nat.le_trans (rdNum_le hx) h.2)⟩
  | error z =>
    rw [hx] at hp
    obtain ⟨rfl, t, rfl⟩ := hp
    exact ⟨rfl, grown_setCell _ _ _⟩

theorem take_rd {b : Nat} {s : List UInt8} {w : World} (n : Nat) (h : Rd w b s) :
    Calls Try.prog 28 #[.pointer (some ⟨b, 0, none⟩), .int .i64 n] w (Gets b w vStr (rdTake n s)) := by
  unfold rdTake
  by_cases hn : s.length < n
  · rw [if_pos hn]
    refine (take_short ⟨b, 0, none⟩ s n w h.cell h.free (by omega) h.2).mono ?_
    rintro e w' ⟨rfl, rfl⟩
    exact ⟨rfl, World.grownBy.refl _ _⟩
  · rw [if_neg hn]
    refine (take_ok ⟨b, 0, none⟩ s n w h.cell h.free (by omega) h.2).mono ?_
    rintro e w' ⟨rfl, rfl⟩
    exact ⟨rfl, h.set _ (by have := h.2; simp; omega)⟩


set_option maxHeartbeats 400000 in
theorem upTo_rd {b : Nat} {s : List UInt8} {w : World} (most : Nat) (hm : most < 1099511627776) (h : Rd w b s) :
    Calls Try.prog 44 #[.pointer (some ⟨b, 0, none⟩), .int .i64 most] w (Gets b w vNat (rdUpTo most s)) := by
  obtain ⟨res, HR⟩ := hide (rdUpTo most s)
  rw [HR.out]
  go_enter Try.func44, Try.ntmps44
  go_wp2_with fail
  refine (number_rd h).mono ?_
  intro e w' hp
  cases hx : rdNum s with
  | error z =>
    obtain rfl : .error z = res := by rw [← HR.out, rdUpTo, hx]
    rw [hx] at hp
    obtain ⟨rfl, hg⟩ := hp
    have Hg := Lib.hid hg
    clear hg hx
    go_wp2_with fail
    exact ⟨rfl, rfl, Hg.out⟩
  | ok p =>
    obtain ⟨x, t⟩ := p
    rw [hx] at hp
    obtain ⟨rfl, hr, hg⟩ := hp
    have hb := rdNum_lt hx
    by_cases hc : most < x
    · obtain rfl : .error 4 = res := by rw [← HR.out, rdUpTo, hx]; simp only [if_pos hc]
      have hd : decide (most < x) = true := decide_eq_true hc
      have Hg := Lib.hid hg
      clear hg hx hr hb h hc
      go_wp2_with (go_at_call 30; refine (fail_any _ _).mono ?_; rintro e w' ⟨rfl, rfl⟩)
      exact ⟨rfl, rfl, Hg.out⟩
    · obtain rfl : .ok (x, t) = res := by rw [← HR.out, rdUpTo, hx]; simp only [if_neg hc]
      have hd : decide (most < x) = false := decide_eq_false hc
      have Hg := Lib.hid hg
      have Hr := Lib.hid hr
      clear hg hx hr hb h hc
      go_wp2_with fail
      go_ret
      exact ⟨rfl, Hr.out, Hg.out⟩

set_option maxHeartbeats 400000 in
theorem text_rd {b : Nat} {s : List UInt8} {w : World} (most : Nat) (hm : most < 1099511627776) (h : Rd w b s) :
    Calls Try.prog 27 #[.pointer (some ⟨b, 0, none⟩), .int .i64 most] w (Gets b w vStr (rdText most s)) := by
  obtain ⟨res, HR⟩ := hide (rdText most s)
  rw [HR.out]
  go_enter Try.func27, Try.ntmps27
  go_wp2_with fail
  refine (upTo_rd most hm h).mono ?_
  intro e w' hp
  cases hx : rdUpTo most s with
  | error z =>
    obtain rfl : .error z = res := by rw [← HR.out, rdText, hx]
    rw [hx] at hp
    obtain ⟨rfl, hg⟩ := hp
    have Hg := Lib.hid hg
    clear hg hx
    go_wp2_with fail
    exact ⟨rfl, rfl, Hg.out⟩
  | ok p =>
    obtain ⟨x, t⟩ := p
    rw [hx] at hp
    obtain ⟨rfl, hr, hg⟩ := hp
    have e1 : rdTake x t = res := by rw [← HR.out, rdText, hx]
    have E1 := Lib.hid e1
    have Hg := Lib.hid hg
    have Hr := Lib.hid hr
    clear hg hx hr h e1
    go_wp2_with fail
    refine (take_rd x Hr.out).mono ?_
    intro e w2 hp
    rw [E1.out] at hp
    cases res with
    | error z =>
      obtain ⟨rfl, hg⟩ := hp
      have Hg2 := Lib.hid hg
      clear hg
      go_wp2_with fail
      exact ⟨rfl, rfl, grown_trans Hg.out Hg2.out⟩
    | ok p =>
      obtain ⟨y, u⟩ := p
      obtain ⟨rfl, hr2, hg2⟩ := hp
      have Hg2 := Lib.hid hg2
      have Hr2 := Lib.hid hr2
      clear hg2 hr2
      go_wp2_with fail
      go_ret
      exact ⟨rfl, Hr2.out, grown_trans Hg.out Hg2.out⟩

theorem Rd.kept {w w' : World} {b : Nat} {s : List UInt8} {row : Option Nat} (h : Rd w b s) (hg : w.grownBy w' row) (hne : some b ≠ row) : Rd w' b s :=
  ⟨(hg.block b (lt_of_block h.1) hne).trans h.1, h.2⟩
end Go.Proofs.Ytjlhlmnoomiblaa

namespace Go.Proofs.Ytjlhlmnoomiblaa
open Go.RowKit Wm Mm
set_option linter.unusedVariables false

theorem two_cell0 {w : World} {b : Nat} {u v : Value} {t : TypeId} (h : w.heap[b]? = some (.cells #[u, v] t (0, 0))) : w.cell? ⟨b, 0, none⟩ = some u := by simp [World.cell?, h]
theorem two_cell1 {w : World} {b : Nat} {u v : Value} {t : TypeId} (h : w.heap[b]? = some (.cells #[u, v] t (0, 0))) : w.cell? ⟨b, 1, none⟩ = some v := by simp [World.cell?, h]
theorem two_free {w : World} {b i : Nat} {u v : Value} {t : TypeId} (h : w.heap[b]? = some (.cells #[u, v] t (0, 0))) : w.frozen? ⟨b, i, none⟩ = false := by simp [World.frozen?, h]
theorem two_set0 {w : World} {b : Nat} {u v x : Value} {t : TypeId} (h : w.heap[b]? = some (.cells #[u, v] t (0, 0))) : (w.setCell ⟨b, 0, none⟩ x).heap[b]? = some (.cells #[x, v] t (0, 0)) := by
  rw [heap_setCell]; simp [h, storeIn]
theorem two_set1 {w : World} {b : Nat} {u v x : Value} {t : TypeId} (h : w.heap[b]? = some (.cells #[u, v] t (0, 0))) : (w.setCell ⟨b, 1, none⟩ x).heap[b]? = some (.cells #[u, x] t (0, 0)) := by
  rw [heap_setCell]; simp [h, storeIn]

end Go.Proofs.Ytjlhlmnoomiblaa

namespace Go.Proofs.Ytjlhlmnoomiblaa.Mm

/-- what recover gives a deferred call over these frames, and the frames behind it -/
def recovered (cs : List Frame) : Value × List Frame :=
  match recoverD cs with
  | some p => p
  | none => (.nilIface, cs)

theorem wpS_seq_recover {P : Program} {Q : Exit → Act → List Frame → World → Prop} {a : Act} {cs : List Frame} {w : World} {id : Nat} {o : Oper} {rest : List Oper} {y : Code} {v : Value} {cs' : List Frame}
    (hg : o.guard = none) (hr : (execOp a.eval o).run P w = .ok .recover w) (hrec : recovered cs = (v, cs'))
    (h : wpList P (o :: rest).toArray (Exit.then (fun a' w' => y.wp P (fun e a w => Q e a cs' w) a' w') (fun e a w => Q e a cs' w)) rest (a.put o.dst v) w) :
    (Code.seq (Code.region id (o :: rest).toArray false) y).wpS P Q a cs w := by
  apply wpS_seq
  intro b k hb hro
  have hops := wpOps_eq_wpList (P := P) (ops := (o :: rest).toArray) (Q := Exit.then (fun a' w' => y.wp P (fun e a w => Q e a cs' w) a' w') (fun e a w => Q e a cs' w)) rest 1 (fun j => by simp [Nat.add_comm 1 j])
  obtain ⟨e, a', w', hq, harr⟩ := wp_ops (List.range' 1 rest.length) (a.put o.dst v) w (by rw [hops]; exact h) b k cs'
  have ho : ((o :: rest).toArray)[0]? = some o := by simp
  have hw : Region.wanted o (yielded (o :: rest).toArray a.tmps) = true := by simp [Region.wanted, hg]
  have hgo := stepG_op (P := P) (b := b) (a := a) (k := k) (cs := cs) (w := w) (i := 0) (rest := List.range' 1 rest.length) ho hw
  have hfin : ∀ v, (b.at a (.inRegion (o :: rest).toArray (0 :: List.range' 1 rest.length) :: k)).finish v = b.at (a.put o.dst v) (.inRegion (o :: rest).toArray (List.range' 1 rest.length) :: k) := by
    intro v; rw [Frame.finish_at, ho]; rfl
  have hk : (b.at a (.inRegion (o :: rest).toArray (0 :: List.range' 1 rest.length) :: k)).kind = .deferred := hb
  have htr := tryRecover_deferred hk cs
  have hrange : List.range ((o :: rest).toArray).size = 0 :: List.range' 1 rest.length := by
    simp [List.range_eq_range', List.range'_succ]
  have hstep : step P (lone (b.at a (.inRegion (o :: rest).toArray (0 :: List.range' 1 rest.length) :: k)) cs w) =
      .next (lone (b.at (a.put o.dst v) (.inRegion (o :: rest).toArray (List.range' 1 rest.length) :: k)) cs' w) := by
    apply step_lone_go
    rw [hgo, ← hfin]
    unfold recovered at hrec
    simp only [Frame.at] at htr ⊢
    cases hR : recoverD cs with
    | some p =>
      rw [hR] at hrec
      obtain ⟨rfl, rfl⟩ := Prod.mk.inj hrec
      simp [stepG.apply, hr, htr, hR]
    | none =>
      rw [hR] at hrec
      obtain ⟨rfl, rfl⟩ := Prod.mk.inj hrec
      simp [stepG.apply, hr, htr, hR]
  have hreg := step_region (P := P) (b := b) (a := a) (k := k) (cs := cs) (w := w) (ops := (o :: rest).toArray) (id := id)
  rw [hrange] at hreg
  refine ⟨e, a', cs', w', ?_, .of_steps (.one hreg) (.of_steps (.one hstep) harr)⟩
  cases e with
  | normal => exact wpS_of_wp hq
  | exit _ => exact hq
  | goto _ => exact hq
  | ret => exact hq
  | panic _ => exact hq
  | outgrown => exact hq

end Go.Proofs.Ytjlhlmnoomiblaa.Mm

namespace Go.Proofs.Ytjlhlmnoomiblaa
open Go.RowKit Wm Mm
set_option linter.unusedVariables false

theorem assert_stop (x : Value) (w : World) : (Instr.typeAssert (.iface 76 x) 20 76 true).run Try.prog w = .ok (.tuple #[x, .bool true]) w := by
  simp [Instr.typeAssert, run_underlying Try.underlying76]
theorem assert_nil (w : World) : (Instr.typeAssert .nilIface 20 76 true).run Try.prog w = .ok (.tuple #[.agg #[.int .i64 0], .bool false]) w := by
  kernel_rfl

set_option maxHeartbeats 1000000 in
theorem catch_ints (bx : Nat) (x : Value) (z0 z : Int) (w : World) (hx : w.heap[bx]? = some (.cells #[x] 22 (0, 0))) (he : w.heap[bx + 1]? = some (.cells #[.int .i64 z0] 49 (0, 0))) :
    CallsD Try.prog 56 #[.pointer (some ⟨bx, 0, none⟩), .pointer (some ⟨bx + 1, 0, none⟩)] (.panicking [{ v := .iface 76 (.agg #[.int .i64 z]), recovered := false }]) w fun e u' w' =>
      e = .returned (.tuple #[]) ∧ u' = .panicking [{ v := .iface 76 (.agg #[.int .i64 z]), recovered := true }] ∧
      w'.heap[bx]? = some (.cells #[.slice none 0 0] 22 (0, 0)) ∧ w'.heap[bx + 1]? = some (.cells #[.int .i64 z] 49 (0, 0)) ∧ Below bx w w' := by
  refine callsD_of_wpS Try.func56 rfl fun c₀ cs hu => ?_
  refine wpS_seq_recover rfl (by simp [go_sem]) (v := .iface 76 (.agg #[.int .i64 z])) (cs' := { c₀ with mode := .panicking [{ v := .iface 76 (.agg #[.int .i64 z]), recovered := true }] } :: cs) ?_ ?_
  · simp [recovered, recoverD, hu]
  simp only [Try.ntmps56, List.size_toArray, List.length_cons, List.length_nil, Nat.reduceAdd, Nat.reduceSub, Array.replicate_succ, Array.replicate_zero, List.push_toArray, List.append_toArray, List.nil_append, List.cons_append]
  have l1 := lt_of_block hx
  have l2 := lt_of_block he
  have n1 : w.heap.size ≠ bx := by omega
  have n2 : w.heap.size ≠ bx + 1 := by omega
  have cx := cell_of_one hx
  have ce := cell_of_one he
  have fx := free_of_one hx
  have fe := free_of_one he
  have Hx := Lib.hid hx
  have He := Lib.hid he
  clear hx he
  have k1 := assert_stop
  go_wp2
  go_region
  go_wp2
  refine ⟨rfl, _, rfl, _, results_none rfl _ _ _, rfl, rfl, ?_, ?_, ?_⟩
  · rw [hp_drew, hp_alloc, if_neg (by simp; omega), heap_setCell, if_neg (by simp), heap_setCell, if_pos rfl, Hx.out]; rfl
  · rw [hp_drew, hp_alloc, if_neg (by simp; omega), heap_setCell, if_pos rfl, heap_setCell, if_neg (by simp), He.out]; rfl
  · exact ((((Below.refl bx w).setCell (p := ⟨bx, 0, none⟩) (Nat.le_refl _) _).setCell (p := ⟨bx + 1, 0, none⟩) (Nat.le_succ _) _).alloc (by simp; omega) _).drew

set_option maxHeartbeats 1000000 in
theorem idle_ints (p q : Addr) (w : World) :
    CallsD Try.prog 56 #[.pointer (some p), .pointer (some q)] .returning w fun e u' w' =>
      e = .returned (.tuple #[]) ∧ u' = .returning ∧ w.alloc (.cells #[.int .i64 0] 76) = w' := by
  refine callsD_of_wpS Try.func56 rfl fun c₀ cs hu => ?_
  refine wpS_seq_recover rfl (by simp [go_sem]) (v := .nilIface) (cs' := c₀ :: cs) ?_ ?_
  · simp [recovered, recoverD, hu]
  simp only [Try.ntmps56, List.size_toArray, List.length_cons, List.length_nil, Nat.reduceAdd, Nat.reduceSub, Array.replicate_succ, Array.replicate_zero, List.push_toArray, List.append_toArray, List.nil_append, List.cons_append]
  have k1 := assert_nil
  go_wp2
  refine ⟨rfl, .returning, ?_, _, results_none rfl _ _ _, rfl, rfl, rfl⟩
  cases c₀
  simp_all
end Go.Proofs.Ytjlhlmnoomiblaa
