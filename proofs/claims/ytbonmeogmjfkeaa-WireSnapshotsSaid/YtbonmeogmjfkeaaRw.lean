/-
  The plain writers of the document's answer: a number, a text.
-/
import Derived.Test.YtbonmeogmjfkeaaWm
import Derived.WalkSpells
import Derived.WalkLawsBesides
import Derived.Lib.Hide
namespace Go.Proofs.Ytbonmeogmjfkeaa
open Go.RowKit Wm Mm
set_option linter.unusedVariables false

theorem toStr1 (x : Int) (w : World) : (convert 80 9 (.slice (some ⟨w.heap.size, 0, none⟩) 1 1)).run Try.prog (w.alloc (.cells #[.int .u8 x] 5)) =
    .ok (str [UInt8.ofNat x.toNat]) (w.alloc (.cells #[.int .u8 x] 5)) :=
  run_toStr_new w _ _ _ 1 1 [x] rfl Try.underlying80 Try.underlying5 Try.underlying9

set_option maxHeartbeats 400000 in
theorem ref_number (k : Nat) : ∀ (n : Nat) (w : World), n ≤ k → n < 9223372036854775808 →
    Calls Try.prog 82 #[.int .i64 n] w fun e w' => e = .returned (str (putNum n)) ∧ Below w.heap.size w w' := by
  induction k with
  | zero =>
    intro n w hn _
    obtain rfl : n = 0 := by omega
    have kc := toStr1
    go_enter Try.func82, Try.ntmps82
    go_wp2_with fail
    go_ret
    exact ⟨by rw [putNum_small (by decide)]; rfl, (Below.refl _ _).alloc (Nat.le_refl _) _⟩
  | succ k ih =>
    intro n w hn hn2
    by_cases h : n < 128
    · have hd : decide ((n : Int) < 128) = true := decide_eq_true (by omega)
      have e1 : putNum n = [UInt8.ofNat n] := putNum_small h
      rw [e1]
      have kc := toStr1
      go_enter Try.func82, Try.ntmps82
      go_wp2_with fail
      go_ret
      exact ⟨rfl, (Below.refl _ _).alloc (Nat.le_refl _) _⟩
    · have hd : decide ((n : Int) < 128) = false := decide_eq_false (by omega)
      have e1 : putNum n = UInt8.ofNat (128 + n % 128) :: putNum (n / 128) := putNum_big h
      rw [e1]
      have hlen := putNum_len10 (n := n / 128) (by omega)
      obtain ⟨u, hu⟩ := hide (putNum (n / 128))
      have IH := Lib.hid (ih (n / 128) w (by omega) (by omega))
      rw [hu.out] at hlen ⊢
      clear ih e1
      have kc := toStr1
      go_enter Try.func82, Try.ntmps82
      go_wp2_with fail
      refine IH.out.mono ?_
      rw [hu.out]
      rintro e w1 ⟨rfl, hb⟩
      have Hb := Lib.hid hb
      clear hb IH
      go_wp2_with fail
      go_ret
      exact ⟨by simp, Hb.out.trans ((Below.refl _ _).alloc Hb.out.size _)⟩

theorem ref_number_any {n : Nat} (hn : n < 9223372036854775808) (w : World) :
    Calls Try.prog 82 #[.int .i64 n] w fun e w' => e = .returned (str (putNum n)) ∧ Below w.heap.size w w' := ref_number n n w (Nat.le_refl _) hn

set_option maxHeartbeats 400000 in
theorem ref_text (s : List UInt8) (w : World) (hs : s.length ≤ 9223372036854775000) :
    Calls Try.prog 89 #[str s] w fun e w' => e = .returned (str (putText s)) ∧ Below w.heap.size w w' := by
  have hlen := putNum_len10 (n := s.length) (by omega)
  have HN := Lib.hid (ref_number_any (n := s.length) (by omega) w)
  unfold putText
  obtain ⟨u, hu⟩ := hide (putNum s.length)
  rw [hu.out] at hlen ⊢
  go_enter Try.func89, Try.ntmps89
  go_wp2_with fail
  refine HN.out.mono ?_
  rw [hu.out]
  rintro e w1 ⟨rfl, hb⟩
  have Hb := Lib.hid hb
  clear hb HN
  have hsum : u.length + s.length ≤ 9223372036854775807 := by omega
  go_wp2_with fail
  go_ret
  exact ⟨by simp, Hb.out⟩
end Go.Proofs.Ytbonmeogmjfkeaa
