/-
  Numbers of keys: the document's reading: a number as a text.
-/
import Derived.Test.YtnmlkoidmacinaaDoorTnu
import Derived.Test.YtnmlkoidmacinaaDoorKb
import Derived.Lib.ItoaLen
namespace Go.Proofs.YtnmlkoidmacinaaDoor
open Go.RowKit Wm Mm Tn
set_option linter.unusedVariables false
set_option linter.unusedSimpArgs false

set_option maxHeartbeats 1000000 in
theorem amount_law (s : List UInt8) (most : Nat) (hm : most ≤ 999999999) (hs : s.length ≤ 1099511627776) (w : World) :
    Calls Tryd.prog 46 #[str s, .int .i64 (most : Int)] w fun e w' => e = .returned (.int .i64 (amountV most s)) ∧ w = w' := by
  obtain ⟨post, HP⟩ := hide (fun (e : Ending) (w' : World) => e = .returned (.int .i64 (amountV most s)) ∧ w = w')
  rw [HP.out]
  have HE : Hid (∀ z : Int, z = amountV most s → post (.returned (.int .i64 z)) w) := by
    show ∀ z, _ → _
    intro z hz
    rw [← HP.out, hz]
    exact ⟨rfl, rfl⟩
  obtain ⟨big, hbig⟩ : ∃ b : Nat, b = 10 * most + 9 := ⟨_, rfl⟩
  go_enter Tryd.func46, Tryd.ntmps46
  go_wp2_with fail
  go_loopw [5, 6] (fun s5 s6 wr => ∃ k n : Nat, s6 = .int .i64 k ∧ s5 = .int .i64 n ∧ k ≤ s.length ∧ n ≤ 9999999999 ∧ Hid (amt most 0 s = amt most n (s.drop k)) ∧ wr = w) (fun _ s6 _ => s.length - (intOf s6).toNat)
  case atStart => exact ⟨0, 0, rfl, rfl, Nat.zero_le _, by omega, rfl, rfl⟩
  case round =>
    obtain ⟨k, n, rfl, rfl, hk, hn, ha, rfl⟩ := hrel
    by_cases hlt : k < s.length
    · have t0 : decide (k < s.length) = true := decide_eq_true hlt
      have hd : s.drop k = s[k] :: s.drop (k + 1) := List.drop_eq_getElem_cons hlt
      have hb := s[k].toNat_lt
      have ha2 := ha.out
      rw [hd, amt] at ha2
      have HA := Lib.hid ha2
      have HBad : Hid (¬ (dgt s[k] = true ∧ n ≤ most) → (-1 : Int) = amountV most s) := by
        show _ → _
        intro h
        have h2 := HA.out
        rw [if_neg h] at h2
        unfold amountV amountB
        rw [h2]
      clear ha2 hd ha
      by_cases h48 : s[k].toNat < 48
      · have q1 : decide ((s[k].toNat : Int) < 48) = true := decide_eq_true (by omega)
        have hbad := HBad.out (fun h => by have := (dgt_iff.1 h.1).1; omega)
        have HB2 := Lib.hid hbad
        clear hbad
        go_wp2_with fail
        exact HE.out _ HB2.out
      · have q1 : decide ((s[k].toNat : Int) < 48) = false := decide_eq_false (by omega)
        by_cases h57 : 57 < s[k].toNat
        · have q2 : decide (57 < (s[k].toNat : Int)) = true := decide_eq_true (by omega)
          have hbad := HBad.out (fun h => by have := (dgt_iff.1 h.1).2; omega)
          have HB2 := Lib.hid hbad
          clear hbad
          go_wp2_with fail
          exact HE.out _ HB2.out
        · have q2 : decide (57 < (s[k].toNat : Int)) = false := decide_eq_false (by omega)
          by_cases hmo : most < n
          · have q3 : decide ((most : Int) < (n : Int)) = true := decide_eq_true (by omega)
            have hbad := HBad.out (fun h => by have := h.2; omega)
            have HB2 := Lib.hid hbad
            clear hbad
            go_wp2_with fail
            exact HE.out _ HB2.out
          · have q3 : decide ((most : Int) < (n : Int)) = false := decide_eq_false (by omega)
            have HA2 : Hid (amt most 0 s = amt most (10 * n + (s[k].toNat - 48)) (s.drop (k + 1))) := by
              have h2 := HA.out
              rw [if_pos ⟨dgt_iff.2 ⟨by omega, by omega⟩, by omega⟩] at h2
              exact h2
            have hw1 : IntKind.u8.wrap ((s[k].toNat : Int) - 48) = (s[k].toNat : Int) - 48 := IntWalk.u8_in _ (by omega)
            have Hn2 : Hid (10 * n + (s[k].toNat - 48) ≤ 9999999999 ∧ ((10 * (n : Int) + ((s[k].toNat : Int) - 48)) = ((10 * n + (s[k].toNat - 48) : Nat) : Int)) ∧ k + 1 ≤ s.length) := ⟨by omega, by omega, by omega⟩
            clear HA HBad
            go_wp2_with fail
            go_roundw
            case rel => exact ⟨k + 1, 10 * n + (s[k].toNat - 48), by go_num, by rw [← Hn2.out.2.1], Hn2.out.2.2, Hn2.out.1, HA2, by first | rfl | trivial⟩
            case measure => simp [intOf]; omega
    · have t0 : decide (k < s.length) = false := decide_eq_false hlt
      have ha2 := ha.out
      rw [List.drop_eq_nil_of_le (by omega), amt] at ha2
      have HA : Hid (amountV most s = if s = [] ∨ most < n ∨ (s.head? = some 48 ∧ 1 < s.length) then -1 else (n : Int)) := by
        show _ = _
        unfold amountV amountB
        rw [ha2]
        dsimp only
        split <;> rename_i h1 <;> split at h1 <;> rename_i h2
        · rw [if_pos h2]
        · cases h1
        · cases h1
        · injection h1 with h1
          rw [if_neg h2, h1]
      clear ha2 ha
      by_cases h0 : s = []
      · have HB2 : Hid ((-1 : Int) = amountV most s) := by show _ = _; rw [HA.out, if_pos (Or.inl h0)]
        have q0 : (s == []) = true := by rw [h0]; rfl
        clear h0
        go_wp2_with fail
        exact HE.out _ HB2.out
      · have q0 : (s == []) = false := by simpa using h0
        have hpos : 0 < s.length := List.length_pos_iff.2 h0
        have hhd : s.head? = some s[0] := by rw [← List.getElem?_eq_getElem hpos]; exact List.head?_eq_getElem?
        have Hhd := Lib.hid hhd
        clear hhd
        by_cases hmo : most < n
        · have q3 : decide ((most : Int) < (n : Int)) = true := decide_eq_true (by omega)
          have HB2 : Hid ((-1 : Int) = amountV most s) := by show _ = _; rw [HA.out, if_pos (Or.inr (Or.inl hmo))]
          go_wp2_with fail
          exact HE.out _ HB2.out
        · have q3 : decide ((most : Int) < (n : Int)) = false := decide_eq_false (by omega)
          have q4 : decide (0 < s.length) = true := decide_eq_true hpos
          by_cases hz : s[0].toNat = 48
          · have q5 : ((s[0].toNat : Int) == 48) = true := beq_iff_eq.2 (by omega)
            have hz2 : s[0] = 48 := UInt8.toNat.inj hz
            have Hz2 := Lib.hid hz2
            clear hz2
            by_cases hl : 1 < s.length
            · have q6 : decide (1 < (s.length : Int)) = true := decide_eq_true (by omega)
              have HB2 : Hid ((-1 : Int) = amountV most s) := by show _ = _; rw [HA.out, if_pos (Or.inr (Or.inr ⟨by rw [Hhd.out, Hz2.out], hl⟩))]
              go_wp2_with fail
              exact HE.out _ HB2.out
            · have q6 : decide (1 < (s.length : Int)) = false := decide_eq_false (by omega)
              have HB2 : Hid ((n : Int) = amountV most s) := by show _ = _; rw [HA.out, if_neg (by rintro (h | h | h); exact h0 h; omega; omega)]
              go_wp2_with fail
              exact HE.out _ HB2.out
          · have q5 : ((s[0].toNat : Int) == 48) = false := beq_eq_false_iff_ne.2 (by omega)
            have HB2 : Hid ((n : Int) = amountV most s) := by
              show _ = _
              rw [HA.out, if_neg]
              rintro (h | h | ⟨h, -⟩)
              · exact h0 h
              · omega
              · rw [Hhd.out] at h
                injection h with h
                rw [h] at hz
                exact hz rfl
            go_wp2_with fail
            exact HE.out _ HB2.out
theorem toStr1n (x : Int) (w : World) : (convert 90 9 (.slice (some ⟨w.heap.size, 0, none⟩) 1 1)).run Tryd.prog (w.alloc (.cells #[.int .u8 x] 5)) =
    .ok (str [UInt8.ofNat x.toNat]) (w.alloc (.cells #[.int .u8 x] 5)) :=
  run_toStr_new w _ _ _ 1 1 [x] rfl Tryd.underlying90 Tryd.underlying5 Tryd.underlying9
theorem dec_big {n : Nat} (h : ¬ n < 10) : Lib.decDigits n = Lib.decDigits (n / 10) ++ [UInt8.ofNat (48 + n % 10)] := by
  conv => lhs; rw [Lib.decDigits]
  rw [dif_neg h]
set_option maxHeartbeats 400000 in
theorem decimal_law (k : Nat) : ∀ (n : Nat) (w : World), n ≤ k → n < 9223372036854775808 →
    Calls Tryd.prog 23 #[.int .i64 n] w fun e w' => e = .returned (str (Lib.decDigits n)) ∧ Below w.heap.size w w' := by
  induction k with
  | zero =>
    intro n w hn _
    obtain rfl : n = 0 := by omega
    have kc := toStr1n
    go_enter Tryd.func23, Tryd.ntmps23
    go_wp2_with fail
    go_ret
    exact ⟨by rw [dec_small (by decide)]; rfl, (Below.refl _ _).alloc (Nat.le_refl _) _⟩
  | succ k ih =>
    intro n w hn hn2
    have hm10 : n % 10 < 10 := Nat.mod_lt _ (by decide)
    have hw1 : IntKind.u8.wrap (48 + ((n % 10 : Nat) : Int)) = 48 + ((n % 10 : Nat) : Int) := IntWalk.u8_in _ (by omega)
    by_cases h : n < 10
    · have hd : decide ((n : Int) < 10) = true := decide_eq_true (by omega)
      have e1 : Lib.decDigits n = [UInt8.ofNat (48 + n)] := dec_small (by omega)
      have e2 : n % 10 = n := Nat.mod_eq_of_lt h
      rw [e1]
      have kc := toStr1n
      go_enter Tryd.func23, Tryd.ntmps23
      go_wp2_with fail
      go_ret
      refine ⟨?_, (Below.refl _ _).alloc (Nat.le_refl _) _⟩
      show Ending.returned _ = _
      congr 1
      show str [UInt8.ofNat (48 + n % 10)] = _
      rw [e2]
    · have hd : decide ((n : Int) < 10) = false := decide_eq_false (by omega)
      have e1 := dec_big h
      rw [e1]
      obtain ⟨u, hu⟩ := hide (Lib.decDigits (n / 10))
      have IH : Hid (∀ w1, Calls Tryd.prog 23 #[.int .i64 ((n / 10 : Nat) : Int)] w1 fun e w' => e = .returned (str u) ∧ Below w1.heap.size w1 w') := by
        show ∀ w1, _
        intro w1
        have := ih (n / 10) w1 (by omega) (by omega)
        rwa [hu.out] at this
      have hul : u.length ≤ 100 := by
        rw [← hu.out, Lib.decDigits_length]
        have := Lib.nDigits_le20 (n / 10) (by omega)
        omega
      rw [hu.out]
      clear ih e1
      have kc := toStr1n
      go_enter Tryd.func23, Tryd.ntmps23
      go_wp2_with fail
      refine (IH.out _).mono ?_
      rintro e w1 ⟨rfl, hb⟩
      have Hb := Lib.hid hb
      clear hb IH
      go_wp2_with fail
      go_ret
      refine ⟨?_, ((Below.refl _ _).alloc (Nat.le_refl _) _).trans (Hb.out.mono (by simp))⟩
      simp
end Go.Proofs.YtnmlkoidmacinaaDoor
