/-
  Writing requests: the document's way; and both as one.
-/
import Derived.Test.YtncndpapbeimbaaRqp
namespace Go.Proofs.Ytncndpapbeimbaa
open Go.RowKit Wm Mm
set_option linter.unusedVariables false

theorem wire_putRequest (client number kind : Int) (key val : List UInt8) (iff time : Int) (w : World) :
    Calls Try.prog 4 #[vReq client number kind key val iff time] w fun e w' =>
      e = .returned (.tuple #[str (putReq client number kind key val iff time), .int .i64 (putReqE client number kind key val iff time)]) ∧ Below w.heap.size w w' := by
  unfold putReq putReqE
  by_cases hok : okReq client number kind key val iff time = true
  · rw [if_pos hok, if_pos hok]
    unfold okReq at hok
    simp only [Bool.and_eq_true] at hok
    obtain ⟨⟨⟨h1, h2⟩, h3⟩, h4⟩ := hok
    obtain ⟨a, rfl, _⟩ := inB_nat h1
    obtain ⟨b, rfl, _⟩ := inB_nat h2
    obtain ⟨c, rfl, _⟩ := inB_nat h3
    by_cases hz : (a : Int) = 0
    · rw [if_pos hz] at h4 ⊢
      obtain rfl : a = 0 := by omega
      simp only [cmdNone, Bool.and_eq_true, decide_eq_true_eq, beq_iff_eq] at h4
      obtain ⟨rfl, rfl, rfl, rfl⟩ := h4
      rw [List.append_nil]
      exact wire_putRequest_none b c w h2 h3
    · rw [if_neg hz] at h4 ⊢
      obtain ⟨hk1, _, _, hk4⟩ := isCommand_facts h4
      have hk5 := (inB_of hk1).1
      obtain ⟨i, rfl, _⟩ := inB_nat hk4
      obtain ⟨k, rfl⟩ : ∃ k : Nat, kind = k := ⟨kind.toNat, by omega⟩
      exact wire_putRequest_some a b k key val i c w hz h4 h1 h2 h3
  · rw [if_neg hok, if_neg hok]
    exact wire_putRequest_no client number kind key val iff time w (by simpa using hok)

theorem alloc_q {w : World} (o : Obj) : Below w.heap.size w (w.alloc o) := (Below.refl _ _).alloc (Nat.le_refl _) _

set_option maxHeartbeats 4000000 in
theorem ref_putRequest_no (client number : Int) (kind : Int) (key val : List UInt8) (iff time : Int) (w : World) (hok : okReq client number kind key val iff time = false) :
    Calls Try.prog 5 #[vReq client number kind key val iff time] w fun e w' => e = .returned (.tuple #[str [], .int .i64 5]) ∧ Below w.heap.size w w' := by
  have Hok := Lib.hid hok
  clear hok
  by_cases hc : client < 0
  · have z1 : decide (0 ≤ client) = false := decide_eq_false (by omega)
    clear hc
    go_enter Try.func5, Try.ntmps5
    go_wp2_with (go_at_call 9; refine (ref_isCommand _ _ _ _ _).mono ?_; rintro e w' ⟨rfl, rfl⟩)
    all_goals
      first
        | (go_ret2
           exact ⟨rfl, ((Below.refl _ _).alloc (Nat.le_refl _) _).alloc (by simp) _⟩)
  have Hc1 := Lib.hid hc
  have c1 : decide (0 ≤ client) = true := decide_eq_true (by omega)
  clear hc
  by_cases hc : 1099511627775 < client
  · have z1 : decide (client ≤ 1099511627775) = false := decide_eq_false (by omega)
    clear hc
    go_enter Try.func5, Try.ntmps5
    go_wp2_with (go_at_call 9; refine (ref_isCommand _ _ _ _ _).mono ?_; rintro e w' ⟨rfl, rfl⟩)
    all_goals
      first
        | (go_ret2
           exact ⟨rfl, ((Below.refl _ _).alloc (Nat.le_refl _) _).alloc (by simp) _⟩)
  have Hc2 := Lib.hid hc
  have c2 : decide (client ≤ 1099511627775) = true := decide_eq_true (by omega)
  clear hc
  by_cases hn : number < 0
  · have z1 : decide (0 ≤ number) = false := decide_eq_false (by omega)
    clear hn
    go_enter Try.func5, Try.ntmps5
    go_wp2_with (go_at_call 9; refine (ref_isCommand _ _ _ _ _).mono ?_; rintro e w' ⟨rfl, rfl⟩)
    all_goals
      first
        | (go_ret2
           exact ⟨rfl, ((Below.refl _ _).alloc (Nat.le_refl _) _).alloc (by simp) _⟩)
  have Hn1 := Lib.hid hn
  have n1 : decide (0 ≤ number) = true := decide_eq_true (by omega)
  clear hn
  by_cases hn : 1099511627775 < number
  · have z1 : decide (number ≤ 1099511627775) = false := decide_eq_false (by omega)
    clear hn
    go_enter Try.func5, Try.ntmps5
    go_wp2_with (go_at_call 9; refine (ref_isCommand _ _ _ _ _).mono ?_; rintro e w' ⟨rfl, rfl⟩)
    all_goals
      first
        | (go_ret2
           exact ⟨rfl, ((Below.refl _ _).alloc (Nat.le_refl _) _).alloc (by simp) _⟩)
  have Hn2 := Lib.hid hn
  have n2 : decide (number ≤ 1099511627775) = true := decide_eq_true (by omega)
  clear hn
  by_cases ht : time < 0
  · have z1 : decide (0 ≤ time) = false := decide_eq_false (by omega)
    clear ht
    go_enter Try.func5, Try.ntmps5
    go_wp2_with (go_at_call 9; refine (ref_isCommand _ _ _ _ _).mono ?_; rintro e w' ⟨rfl, rfl⟩)
    all_goals
      first
        | (go_ret2
           exact ⟨rfl, ((Below.refl _ _).alloc (Nat.le_refl _) _).alloc (by simp) _⟩)
  have Ht1 := Lib.hid ht
  have t1 : decide (0 ≤ time) = true := decide_eq_true (by omega)
  clear ht
  by_cases ht : 1099511627775 < time
  · have z1 : decide (time ≤ 1099511627775) = false := decide_eq_false (by omega)
    clear ht
    go_enter Try.func5, Try.ntmps5
    go_wp2_with (go_at_call 9; refine (ref_isCommand _ _ _ _ _).mono ?_; rintro e w' ⟨rfl, rfl⟩)
    all_goals
      first
        | (go_ret2
           exact ⟨rfl, ((Below.refl _ _).alloc (Nat.le_refl _) _).alloc (by simp) _⟩)
  have Ht2 := Lib.hid ht
  have t2 : decide (time ≤ 1099511627775) = true := decide_eq_true (by omega)
  clear ht
  go_enter Try.func5, Try.ntmps5
  go_wp2_with (go_at_call 9; refine (ref_isCommand _ _ _ _ _).mono ?_; rintro e w' ⟨rfl, rfl⟩)
  all_goals
    first
      | (go_ret2
         exact ⟨rfl, ((Below.refl _ _).alloc (Nat.le_refl _) _).alloc (by simp) _⟩)
      | (exfalso
         have hok := Hok.out
         have hb1 : inB client 0 1099511627775 = true := by have := Hc1.out; have := Hc2.out; simp [inB]; omega
         have hb2 : inB number 0 1099511627775 = true := by have := Hn1.out; have := Hn2.out; simp [inB]; omega
         have hb3 : inB time 0 1099511627775 = true := by have := Ht1.out; have := Ht2.out; simp [inB]; omega
         clear Hok Hc1 Hc2 Hn1 Hn2 Ht1 Ht2
         simp_all [okReq, cmdNone]; done)

set_option maxHeartbeats 2000000 in
theorem ref_putRequest_none (number time : Nat) (w : World)  (h2 : inB number 0 1099511627775 = true) (h3 : inB time 0 1099511627775 = true) :
    Calls Try.prog 5 #[vReq 0 number 0 [] [] 0 time] w fun e w' => e = .returned (.tuple #[str (putNum 0 ++ (putNum number ++ putNum time)), .int .i64 0]) ∧ Below w.heap.size w w' := by
  have H0 : Hid (isCommand 0 [] [] 0 = false) := by show _ = _; decide
  have hb2 := (inB_of h2).2
  have hb3 := (inB_of h3).2
  have n1 : decide (number ≤ 1099511627775) = true := decide_eq_true (by omega)
  have n2 : decide ((number : Int) ≤ 1099511627775) = true := decide_eq_true (by omega)
  have m1 : decide (time ≤ 1099511627775) = true := decide_eq_true (by omega)
  have m2 : decide ((time : Int) ≤ 1099511627775) = true := decide_eq_true (by omega)
  have hl1 := putNum_len10 (n := 0) (by omega)
  have hl2 := putNum_len10 (n := number) (by omega)
  have hl3 := putNum_len10 (n := time) (by omega)
  have HT1 := Lib.hid (fun w => ref_number_any (n := 0) (by omega) w)
  have HT2 := Lib.hid (fun w => ref_number_any (n := number) (by omega) w)
  have HT3 := Lib.hid (fun w => ref_number_any (n := time) (by omega) w)
  obtain ⟨p1, hp1⟩ := hide (putNum 0)
  obtain ⟨p2, hp2⟩ := hide (putNum number)
  obtain ⟨p3, hp3⟩ := hide (putNum time)
  have e3 : putNum 0 ++ (putNum number ++ putNum time) = ((p1 ++ p2) ++ p3) := by rw [← hp1.out, ← hp2.out, ← hp3.out]; simp only [List.append_assoc]
  rw [e3]
  rw [hp1.out] at hl1 HT1
  rw [hp2.out] at hl2 HT2
  rw [hp3.out] at hl3 HT3
  obtain ⟨W3, hW⟩ := hide ((w.alloc (.cells #[.int .i64 0, .int .i64 number, .int .i64 0, str [], str [], .int .i64 0, .int .i64 time] 25)).alloc (.cells #[.int .i64 0, str [], str [], .int .i64 0] 23))
  have hc : W3.heap[w.heap.size]? = some (.cells #[.int .i64 0, .int .i64 number, .int .i64 0, str [], str [], .int .i64 0, .int .i64 time] 25 (0, 0)) := by
    rw [← hW.out]; exact (hp_past _ _ (by simp only [World.size_alloc]; omega)).trans (hp_at _ _ rfl)
  have hb : Below w.heap.size w W3 := by
    rw [← hW.out]
    exact ((Below.refl _ _).alloc (Nat.le_refl _) _).alloc (by simp) _
  have hs : w.heap.size < W3.heap.size := by rw [← hW.out]; simp; omega
  have Hc := Lib.hid hc
  have Hb := Lib.hid hb
  have Hs := Lib.hid hs
  clear hc hb hs e3 hb2 hb3 h2 h3
  go_enter Try.func5, Try.ntmps5
  go_wp2_with (go_at_call 9; refine (ref_isCommand _ _ _ _ _).mono ?_; rintro e w' ⟨rfl, rfl⟩; rw [H0.out])
  all_goals try (exfalso; omega)
  rw [hW.out]
  refine (HT1.out _).mono ?_
  rintro e w1 ⟨rfl, hb1⟩
  have hc1 := (hb1.block w.heap.size Hs.out).trans Hc.out
  obtain ⟨c0, c1, c2, c3, c4, c5, c6⟩ := seven_cells hc1
  have Hs1 := Lib.hid (Nat.lt_of_lt_of_le Hs.out hb1.size)
  have Hb1 := Lib.hid (Hb.out.trans (hb1.mono (by have := Hs.out; omega)))
  have Hc1 := Lib.hid hc1
  clear hc1 hb1
  go_wp2_with fail
  refine (HT2.out _).mono ?_
  clear c0 c1 c2 c3 c4 c5 c6
  rintro e w2 ⟨rfl, hb1⟩
  have hc1 := (hb1.block w.heap.size Hs1.out).trans Hc1.out
  obtain ⟨c0, c1, c2, c3, c4, c5, c6⟩ := seven_cells hc1
  have Hs2 := Lib.hid (Nat.lt_of_lt_of_le Hs1.out hb1.size)
  have Hb2 := Lib.hid (Hb1.out.trans (hb1.mono (by have := Hs1.out; omega)))
  have Hc2 := Lib.hid hc1
  clear hc1 hb1
  go_wp2_with fail
  have hs2 : p1.length + p2.length ≤ 9223372036854775807 := by omega
  have hs3 : p1.length + p2.length + p3.length ≤ 9223372036854775807 := by omega
  refine (HT3.out _).mono ?_
  clear c0 c1 c2 c3 c4 c5 c6
  rintro e w3 ⟨rfl, hb1⟩
  have hc1 := (hb1.block w.heap.size Hs2.out).trans Hc2.out
  have Hs3 := Lib.hid (Nat.lt_of_lt_of_le Hs2.out hb1.size)
  have Hb3 := Lib.hid (Hb2.out.trans (hb1.mono (by have := Hs2.out; omega)))
  have Hc3 := Lib.hid hc1
  obtain ⟨c0, c1, c2, c3, c4, c5, c6⟩ := seven_cells hc1
  clear hc1 hb1
  go_wp2_with fail
  go_ret2
  exact ⟨by simp, Hb3.out⟩

set_option maxHeartbeats 2000000 in
theorem ref_putRequest_some (client number kind : Nat) (key val : List UInt8) (iff time : Nat) (w : World) (hn : ¬ (client : Int) = 0) (h0 : isCommand kind key val iff = true) (h1 : inB client 0 1099511627775 = true) (h2 : inB number 0 1099511627775 = true) (h3 : inB time 0 1099511627775 = true) :
    Calls Try.prog 5 #[vReq client number kind key val iff time] w fun e w' => e = .returned (.tuple #[str (putNum client ++ (putNum number ++ (putNum time ++ putCmd kind key val iff))), .int .i64 0]) ∧ Below w.heap.size w w' := by
  have H0 := Lib.hid h0
  have hb1 := (inB_of h1).2
  obtain ⟨hk1, hk2, hk3, hk4⟩ := isCommand_facts h0
  have hk5 := (inB_of hk1).2
  have hk6 := (inB_of hk4).2
  have hn0 : ((client : Int) == 0) = false := beq_eq_false_iff_ne.2 hn
  have hn2 : client ≠ 0 := fun e => hn (by rw [e]; rfl)
  have hk0 : kind ≠ 0 := by have := (inB_of hk1).1; omega
  have o1 : decide (client ≤ 1099511627775) = true := decide_eq_true (by omega)
  have o2 : decide ((client : Int) ≤ 1099511627775) = true := decide_eq_true (by omega)
  have hb2 := (inB_of h2).2
  have hb3 := (inB_of h3).2
  have n1 : decide (number ≤ 1099511627775) = true := decide_eq_true (by omega)
  have n2 : decide ((number : Int) ≤ 1099511627775) = true := decide_eq_true (by omega)
  have m1 : decide (time ≤ 1099511627775) = true := decide_eq_true (by omega)
  have m2 : decide ((time : Int) ≤ 1099511627775) = true := decide_eq_true (by omega)
  have hl1 := putNum_len10 (n := client) (by omega)
  have hl2 := putNum_len10 (n := number) (by omega)
  have hl3 := putNum_len10 (n := time) (by omega)
  have HT1 := Lib.hid (fun w => ref_number_any (n := client) (by omega) w)
  have HT2 := Lib.hid (fun w => ref_number_any (n := number) (by omega) w)
  have HT3 := Lib.hid (fun w => ref_number_any (n := time) (by omega) w)
  have hl4 := putNum_len10 (n := kind) (by omega)
  have hl5 := putText_len key (by omega)
  have hl6 := putText_len val (by omega)
  have hl7 := putNum_len10 (n := iff) (by omega)
  have HT4 := Lib.hid (fun w => ref_number_any (n := kind) (by omega) w)
  have HT5 := Lib.hid (fun w => ref_text key w (by omega))
  have HT6 := Lib.hid (fun w => ref_text val w (by omega))
  have HT7 := Lib.hid (fun w => ref_number_any (n := iff) (by omega) w)
  obtain ⟨p1, hp1⟩ := hide (putNum client)
  obtain ⟨p2, hp2⟩ := hide (putNum number)
  obtain ⟨p3, hp3⟩ := hide (putNum time)
  obtain ⟨p4, hp4⟩ := hide (putNum kind)
  obtain ⟨p5, hp5⟩ := hide (putText key)
  obtain ⟨p6, hp6⟩ := hide (putText val)
  obtain ⟨p7, hp7⟩ := hide (putNum iff)
  have e3 : putNum client ++ (putNum number ++ (putNum time ++ putCmd kind key val iff)) = ((((((p1 ++ p2) ++ p3) ++ p4) ++ p5) ++ p6) ++ p7) := by rw [← hp1.out, ← hp2.out, ← hp3.out, ← hp4.out, ← hp5.out, ← hp6.out, ← hp7.out]; rw [putCmd]; simp only [List.append_assoc]
  rw [e3]
  rw [hp1.out] at hl1 HT1
  rw [hp2.out] at hl2 HT2
  rw [hp3.out] at hl3 HT3
  rw [hp4.out] at hl4 HT4
  rw [hp5.out] at hl5 HT5
  rw [hp6.out] at hl6 HT6
  rw [hp7.out] at hl7 HT7
  obtain ⟨W3, hW⟩ := hide ((w.alloc (.cells #[.int .i64 client, .int .i64 number, .int .i64 kind, str key, str val, .int .i64 iff, .int .i64 time] 25)).alloc (.cells #[.int .i64 kind, str key, str val, .int .i64 iff] 23))
  have hc : W3.heap[w.heap.size]? = some (.cells #[.int .i64 client, .int .i64 number, .int .i64 kind, str key, str val, .int .i64 iff, .int .i64 time] 25 (0, 0)) := by
    rw [← hW.out]; exact (hp_past _ _ (by simp only [World.size_alloc]; omega)).trans (hp_at _ _ rfl)
  have hb : Below w.heap.size w W3 := by
    rw [← hW.out]
    exact ((Below.refl _ _).alloc (Nat.le_refl _) _).alloc (by simp) _
  have hs : w.heap.size < W3.heap.size := by rw [← hW.out]; simp; omega
  have Hc := Lib.hid hc
  have Hb := Lib.hid hb
  have Hs := Lib.hid hs
  clear hc hb hs e3 hb2 hb3 h2 h3 hb1 hk1 hk4 hk5 hk6 h0 h1
  go_enter Try.func5, Try.ntmps5
  go_wp2_with (go_at_call 9; refine (ref_isCommand _ _ _ _ _).mono ?_; rintro e w' ⟨rfl, rfl⟩; rw [H0.out])
  all_goals try (exfalso; omega)
  rw [hW.out]
  refine (HT1.out _).mono ?_
  rintro e w1 ⟨rfl, hb1⟩
  have hc1 := (hb1.block w.heap.size Hs.out).trans Hc.out
  obtain ⟨c0, c1, c2, c3, c4, c5, c6⟩ := seven_cells hc1
  have Hs1 := Lib.hid (Nat.lt_of_lt_of_le Hs.out hb1.size)
  have Hb1 := Lib.hid (Hb.out.trans (hb1.mono (by have := Hs.out; omega)))
  have Hc1 := Lib.hid hc1
  clear hc1 hb1
  go_wp2_with fail
  refine (HT2.out _).mono ?_
  clear c0 c1 c2 c3 c4 c5 c6
  rintro e w2 ⟨rfl, hb1⟩
  have hc1 := (hb1.block w.heap.size Hs1.out).trans Hc1.out
  obtain ⟨c0, c1, c2, c3, c4, c5, c6⟩ := seven_cells hc1
  have Hs2 := Lib.hid (Nat.lt_of_lt_of_le Hs1.out hb1.size)
  have Hb2 := Lib.hid (Hb1.out.trans (hb1.mono (by have := Hs1.out; omega)))
  have Hc2 := Lib.hid hc1
  clear hc1 hb1
  go_wp2_with fail
  have hs2 : p1.length + p2.length ≤ 9223372036854775807 := by omega
  have hs3 : p1.length + p2.length + p3.length ≤ 9223372036854775807 := by omega
  refine (HT3.out _).mono ?_
  clear c0 c1 c2 c3 c4 c5 c6
  rintro e w3 ⟨rfl, hb1⟩
  have hc1 := (hb1.block w.heap.size Hs2.out).trans Hc2.out
  obtain ⟨c0, c1, c2, c3, c4, c5, c6⟩ := seven_cells hc1
  have Hs3 := Lib.hid (Nat.lt_of_lt_of_le Hs2.out hb1.size)
  have Hb3 := Lib.hid (Hb2.out.trans (hb1.mono (by have := Hs2.out; omega)))
  have Hc3 := Lib.hid hc1
  clear hc1 hb1
  go_wp2_with fail
  refine (HT4.out _).mono ?_
  clear c0 c1 c2 c3 c4 c5 c6
  rintro e w4 ⟨rfl, hb1⟩
  have hc1 := (hb1.block w.heap.size Hs3.out).trans Hc3.out
  obtain ⟨c0, c1, c2, c3, c4, c5, c6⟩ := seven_cells hc1
  have Hs4 := Lib.hid (Nat.lt_of_lt_of_le Hs3.out hb1.size)
  have Hb4 := Lib.hid (Hb3.out.trans (hb1.mono (by have := Hs3.out; omega)))
  have Hc4 := Lib.hid hc1
  clear hc1 hb1
  go_wp2_with fail
  refine (HT5.out _).mono ?_
  clear c0 c1 c2 c3 c4 c5 c6
  rintro e w5 ⟨rfl, hb1⟩
  have hc1 := (hb1.block w.heap.size Hs4.out).trans Hc4.out
  obtain ⟨c0, c1, c2, c3, c4, c5, c6⟩ := seven_cells hc1
  have Hs5 := Lib.hid (Nat.lt_of_lt_of_le Hs4.out hb1.size)
  have Hb5 := Lib.hid (Hb4.out.trans (hb1.mono (by have := Hs4.out; omega)))
  have Hc5 := Lib.hid hc1
  clear hc1 hb1
  go_wp2_with fail
  refine (HT6.out _).mono ?_
  clear c0 c1 c2 c3 c4 c5 c6
  rintro e w6 ⟨rfl, hb1⟩
  have hc1 := (hb1.block w.heap.size Hs5.out).trans Hc5.out
  obtain ⟨c0, c1, c2, c3, c4, c5, c6⟩ := seven_cells hc1
  have Hs6 := Lib.hid (Nat.lt_of_lt_of_le Hs5.out hb1.size)
  have Hb6 := Lib.hid (Hb5.out.trans (hb1.mono (by have := Hs5.out; omega)))
  have Hc6 := Lib.hid hc1
  clear hc1 hb1
  go_wp2_with fail
  refine (HT7.out _).mono ?_
  clear c0 c1 c2 c3 c4 c5 c6
  rintro e w7 ⟨rfl, hb1⟩
  have hc1 := (hb1.block w.heap.size Hs6.out).trans Hc6.out
  have Hs7 := Lib.hid (Nat.lt_of_lt_of_le Hs6.out hb1.size)
  have Hb7 := Lib.hid (Hb6.out.trans (hb1.mono (by have := Hs6.out; omega)))
  have Hc7 := Lib.hid hc1
  obtain ⟨c0, c1, c2, c3, c4, c5, c6⟩ := seven_cells hc1
  clear hc1 hb1
  have hs2 : p1.length + p2.length ≤ 9223372036854775807 := by omega
  have hs3 : p1.length + p2.length + p3.length ≤ 9223372036854775807 := by omega
  have hs4 : p1.length + p2.length + p3.length + p4.length ≤ 9223372036854775807 := by omega
  have hs5 : p1.length + p2.length + p3.length + p4.length + p5.length ≤ 9223372036854775807 := by omega
  have hs6 : p1.length + p2.length + p3.length + p4.length + p5.length + p6.length ≤ 9223372036854775807 := by omega
  have hs7 : p1.length + p2.length + p3.length + p4.length + p5.length + p6.length + p7.length ≤ 9223372036854775807 := by omega
  go_wp2_with fail
  go_ret2
  exact ⟨by simp, Hb7.out⟩

theorem ref_putRequest (client number kind : Int) (key val : List UInt8) (iff time : Int) (w : World) :
    Calls Try.prog 5 #[vReq client number kind key val iff time] w fun e w' =>
      e = .returned (.tuple #[str (putReq client number kind key val iff time), .int .i64 (putReqE client number kind key val iff time)]) ∧ Below w.heap.size w w' := by
  unfold putReq putReqE
  by_cases hok : okReq client number kind key val iff time = true
  · rw [if_pos hok, if_pos hok]
    unfold okReq at hok
    simp only [Bool.and_eq_true] at hok
    obtain ⟨⟨⟨h1, h2⟩, h3⟩, h4⟩ := hok
    obtain ⟨a, rfl, _⟩ := inB_nat h1
    obtain ⟨b, rfl, _⟩ := inB_nat h2
    obtain ⟨c, rfl, _⟩ := inB_nat h3
    by_cases hz : (a : Int) = 0
    · rw [if_pos hz] at h4 ⊢
      obtain rfl : a = 0 := by omega
      simp only [cmdNone, Bool.and_eq_true, decide_eq_true_eq, beq_iff_eq] at h4
      obtain ⟨rfl, rfl, rfl, rfl⟩ := h4
      rw [List.append_nil]
      exact ref_putRequest_none b c w h2 h3
    · rw [if_neg hz] at h4 ⊢
      obtain ⟨hk1, _, _, hk4⟩ := isCommand_facts h4
      have hk5 := (inB_of hk1).1
      obtain ⟨i, rfl, _⟩ := inB_nat hk4
      obtain ⟨k, rfl⟩ : ∃ k : Nat, kind = k := ⟨kind.toNat, by omega⟩
      exact ref_putRequest_some a b k key val i c w hz h4 h1 h2 h3
  · rw [if_neg hok, if_neg hok]
    exact ref_putRequest_no client number kind key val iff time w (by simpa using hok)
end Go.Proofs.Ytncndpapbeimbaa
