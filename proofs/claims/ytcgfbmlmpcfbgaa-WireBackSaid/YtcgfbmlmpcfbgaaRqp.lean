/-
  Writing requests, both ways.
-/
import Derived.Test.YtcgfbmlmpcfbgaaRq
import Derived.Test.YtcgfbmlmpcfbgaaWp
import Derived.Deep.QuietTactic
import Derived.BigQuiet
namespace Go.Proofs.Ytcgfbmlmpcfbgaa
open Go.RowKit Wm Mm
set_option linter.unusedVariables false

def putCmd (kind : Nat) (key val : List UInt8) (iff : Nat) : List UInt8 := putNum kind ++ (putText key ++ (putText val ++ putNum iff))
theorem putText_len (s : List UInt8) (h : s.length < 9223372036854775808) : (putText s).length ≤ 9 + s.length := by
  have := putNum_len10 h
  simp [putText]; omega


theorem four_cells {w : World} {b : Nat} {x0 x1 x2 x3 : Value} {t : TypeId} (h : w.heap[b]? = some (.cells #[x0, x1, x2, x3] t (0, 0))) :
    w.cell? ⟨b, 0, none⟩ = some x0 ∧ w.cell? ⟨b, 1, none⟩ = some x1 ∧ w.cell? ⟨b, 2, none⟩ = some x2 ∧ w.cell? ⟨b, 3, none⟩ = some x3 := by
  simp [World.cell?, h]

set_option maxHeartbeats 1000000 in
theorem writer_command {w : World} {b : Nat} {xs : List UInt8} (kind : Nat) (key val : List UInt8) (iff : Nat) (hk : kind < 9223372036854775808) (hi : iff < 9223372036854775808)
    (hx : xs.length + key.length + val.length ≤ 140737488355000) (h : Wr w b xs) :
    Calls Try.prog 20 #[.pointer (some ⟨b, 0, none⟩), vCmd kind key val iff] w fun e w' =>
      e = .returned (.tuple #[]) ∧ Wr w' b (xs ++ putCmd kind key val iff) ∧ BK b w w' := by
  have hbw : b < w.heap.size := by obtain ⟨v, hb, _⟩ := h; exact lt_of_block hb
  have hl1 := putNum_len10 hk
  have hl2 := putText_len key (by omega)
  have hl3 := putText_len val (by omega)
  have hT : (25 : TypeId) ≠ 5 := by decide
  have ha : Wr (w.alloc (.cells #[.int .i64 kind, str key, str val, .int .i64 iff] 25)) b xs := by
    obtain ⟨v, hb, ho⟩ := h
    exact ⟨v, (hp_past _ _ (by omega)).trans hb, ho.alloc _⟩
  have hba : BK b w (w.alloc (.cells #[.int .i64 kind, str key, str val, .int .i64 iff] 25)) := BK.alloc _ (by omega)
  have hc : (w.alloc (.cells #[.int .i64 kind, str key, str val, .int .i64 iff] 25)).heap[w.heap.size]? = some (.cells #[.int .i64 kind, str key, str val, .int .i64 iff] 25 (0, 0)) := hp_at _ _ rfl
  obtain ⟨p1, hp1⟩ := hide (xs ++ putNum kind)
  obtain ⟨p2, hp2⟩ := hide (p1 ++ putText key)
  obtain ⟨p3, hp3⟩ := hide (p2 ++ putText val)
  obtain ⟨p4, hp4⟩ := hide (p3 ++ putNum iff)
  have hq1 : p1.length ≤ xs.length + 9 := by rw [← hp1.out, List.length_append]; omega
  have hq2 : p2.length ≤ xs.length + key.length + 18 := by rw [← hp2.out, List.length_append]; omega
  have hq3 : p3.length ≤ xs.length + key.length + val.length + 27 := by rw [← hp3.out, List.length_append]; omega
  have e4 : xs ++ putCmd kind key val iff = p4 := by rw [← hp4.out, ← hp3.out, ← hp2.out, ← hp1.out, putCmd]; simp only [List.append_assoc]
  rw [e4]
  have HN := Lib.hid (writer_number_k kind hk (by omega) ha)
  rw [hp1.out] at HN
  have HT1 : ∀ w1, Wr w1 b p1 → Calls Try.prog 45 #[.pointer (some ⟨b, 0, none⟩), str key] w1 fun e w' => e = .returned (.tuple #[]) ∧ Wr w' b p2 ∧ BK b w1 w' := fun w1 h1 => by
    rw [← hp2.out]; exact writer_text_k key (by omega) h1
  have HT2 : ∀ w1, Wr w1 b p2 → Calls Try.prog 45 #[.pointer (some ⟨b, 0, none⟩), str val] w1 fun e w' => e = .returned (.tuple #[]) ∧ Wr w' b p3 ∧ BK b w1 w' := fun w1 h1 => by
    rw [← hp3.out]; exact writer_text_k val (by omega) h1
  have HT3 : ∀ w1, Wr w1 b p3 → Calls Try.prog 19 #[.pointer (some ⟨b, 0, none⟩), .int .i64 iff] w1 fun e w' => e = .returned (.tuple #[]) ∧ Wr w' b p4 ∧ BK b w1 w' := fun w1 h1 => by
    rw [← hp4.out]; exact writer_number_k iff hi (by omega) h1
  have HT1 := Lib.hid HT1
  have HT2 := Lib.hid HT2
  have HT3 := Lib.hid HT3
  have Hba := Lib.hid hba
  have Hc := Lib.hid hc
  have Hbn : Hid (w.heap.size ≠ b) := by show _ ≠ _; omega
  clear h ha hba hc hx hk hi hl1 hl2 hl3 hq1 hq2 hq3 e4 hbw
  go_enter Try.func20, Try.ntmps20
  go_wp2_with fail
  refine HN.out.mono ?_
  rintro e w1 ⟨rfl, hw1, hb1⟩
  have hc1 := hb1.2 _ _ _ Hbn.out hT Hc.out
  obtain ⟨c0, c1, c2, c3⟩ := four_cells hc1
  have Hc1 := Lib.hid hc1
  have Hb1 := Lib.hid (Hba.out.trans hb1)
  have Hw1 := Lib.hid hw1
  clear hc1 hb1 hw1
  go_wp2_with fail
  refine (HT1.out _ Hw1.out).mono ?_
  clear c0 c1 c2 c3
  rintro e w2 ⟨rfl, hw1, hb1⟩
  have hc1 := hb1.2 _ _ _ Hbn.out hT Hc1.out
  obtain ⟨c0, c1, c2, c3⟩ := four_cells hc1
  have Hc2 := Lib.hid hc1
  have Hb2 := Lib.hid (Hb1.out.trans hb1)
  have Hw2 := Lib.hid hw1
  clear hc1 hb1 hw1
  go_wp2_with fail
  refine (HT2.out _ Hw2.out).mono ?_
  clear c0 c1 c2 c3
  rintro e w3 ⟨rfl, hw1, hb1⟩
  have hc1 := hb1.2 _ _ _ Hbn.out hT Hc2.out
  obtain ⟨c0, c1, c2, c3⟩ := four_cells hc1
  have Hc3 := Lib.hid hc1
  have Hb3 := Lib.hid (Hb2.out.trans hb1)
  have Hw3 := Lib.hid hw1
  clear hc1 hb1 hw1
  go_wp2_with fail
  refine (HT3.out _ Hw3.out).mono ?_
  clear c0 c1 c2 c3
  rintro e w4 ⟨rfl, hw1, hb1⟩
  have Hb4 := Lib.hid (Hb3.out.trans hb1)
  have Hw4 := Lib.hid hw1
  clear hb1 hw1
  go_wp2_with fail
  go_end0
  exact ⟨rfl, Hw4.out, Hb4.out⟩
/-- a request as a value -/
abbrev vReq (client number : Int) (kind : Int) (key val : List UInt8) (iff time : Int) : Value := .agg #[.int .i64 client, .int .i64 number, .int .i64 kind, str key, str val, .int .i64 iff, .int .i64 time]
def cmdNone (kind : Int) (key val : List UInt8) (iff : Int) : Bool := decide (kind = 0) && (key == [] && (val == [] && decide (iff = 0)))
def okReq (client number kind : Int) (key val : List UInt8) (iff time : Int) : Bool :=
  inB client 0 1099511627775 && inB number 0 1099511627775 && inB time 0 1099511627775 && (if client = 0 then cmdNone kind key val iff else isCommand kind key val iff)
def putReq (client number kind : Int) (key val : List UInt8) (iff time : Int) : List UInt8 :=
  if okReq client number kind key val iff time = true then putNum client.toNat ++ (putNum number.toNat ++ (putNum time.toNat ++ (if client = 0 then [] else putCmd kind.toNat key val iff.toNat))) else []
def putReqE (client number kind : Int) (key val : List UInt8) (iff time : Int) : Int := if okReq client number kind key val iff time = true then 0 else 5

theorem inB_nat {n h : Int} (H : inB n 0 h = true) : ∃ a : Nat, n = a ∧ (a : Int) ≤ h := by
  simp [inB] at H
  exact ⟨n.toNat, by omega, by omega⟩
theorem inB_of {n l h : Int} (H : inB n l h = true) : l ≤ n ∧ n ≤ h := by simpa [inB] using H
theorem isCommand_facts {kind : Int} {key val : List UInt8} {iff : Int} (h : isCommand kind key val iff = true) :
    inB kind 1 6 = true ∧ key.length ≤ 16 ∧ val.length ≤ 64 ∧ inB iff 0 1099511627775 = true := by
  unfold isCommand at h
  simp only [Bool.and_eq_true, decide_eq_true_eq] at h
  exact ⟨h.1.1.1.1, h.1.1.1.2, h.1.1.2, h.1.2⟩

set_option maxHeartbeats 2000000 in
theorem wire_putRequest_no (client number : Int) (kind : Int) (key val : List UInt8) (iff time : Int) (w : World) (hok : okReq client number kind key val iff time = false) :
    Calls Try.prog 5 #[vReq client number kind key val iff time] w fun e w' => e = .returned (.tuple #[str [], .int .i64 5]) ∧ Below w.heap.size w w' := by
  have Hok := Lib.hid hok
  clear hok
  go_enter Try.func5, Try.ntmps5
  go_wp2_with (first
    | (go_at_call 18; refine (in_any _ _ _ _).mono ?_; rintro e w' ⟨rfl, rfl⟩)
    | (go_at_call 17; refine (wire_isCommand _ _ _ _ _).mono ?_; rintro e w' ⟨rfl, rfl⟩))
  all_goals
    first
      | (go_ret2
         exact ⟨rfl, ((Below.refl _ _).alloc (Nat.le_refl _) _).alloc (by simp) _⟩)
      | (exfalso
         have hok := Hok.out
         clear Hok
         simp_all [okReq, cmdNone]; done)

/-- the writer's bytes, as a text -/
theorem writer_str {w : World} {v : Value} {base : Nat} {xs : List UInt8} (ho : w.ownsRow base 5 1 v xs.length (xs.map bval)) :
    (convert 61 9 v).run Try.prog w = .ok (str xs) w :=
  run_toStr_own w 61 9 5 base _ v xs Try.underlying61 Try.underlying5 Try.underlying9 ho

theorem seven_cells {w : World} {b : Nat} {x0 x1 x2 x3 x4 x5 x6 : Value} {t : TypeId} (h : w.heap[b]? = some (.cells #[x0, x1, x2, x3, x4, x5, x6] t (0, 0))) :
    w.cell? ⟨b, 0, none⟩ = some x0 ∧ w.cell? ⟨b, 1, none⟩ = some x1 ∧ w.cell? ⟨b, 2, none⟩ = some x2 ∧ w.cell? ⟨b, 3, none⟩ = some x3 ∧ w.cell? ⟨b, 4, none⟩ = some x4 ∧ w.cell? ⟨b, 5, none⟩ = some x5 ∧ w.cell? ⟨b, 6, none⟩ = some x6 := by
  simp [World.cell?, h]

set_option maxHeartbeats 2000000 in
theorem wire_putRequest_none (number time : Nat) (w : World)  (h2 : inB number 0 1099511627775 = true) (h3 : inB time 0 1099511627775 = true) :
    Calls Try.prog 5 #[vReq 0 number 0 [] [] 0 time] w fun e w' => e = .returned (.tuple #[str (putNum 0 ++ (putNum number ++ putNum time)), .int .i64 0]) ∧ Below w.heap.size w w' := by
  have H1 : Hid (inB 0 0 1099511627775 = true) := by show _ = _; decide
  have H0 : Hid (isCommand 0 [] [] 0 = false) := by show _ = _; decide
  have hb2 := (inB_of h2).2
  have hb3 := (inB_of h3).2
  have hl1 := putNum_len10 (n := 0) (by omega)
  have hl2 := putNum_len10 (n := number) (by omega)
  have hl3 := putNum_len10 (n := time) (by omega)
  have hT : (27 : TypeId) ≠ 5 := by decide
  obtain ⟨p1, hp1⟩ := hide (putNum 0)
  obtain ⟨p2, hp2⟩ := hide (p1 ++ putNum number)
  obtain ⟨p3, hp3⟩ := hide (p2 ++ putNum time)
  have hq1 : p1.length ≤ 9 := by rw [← hp1.out]; omega
  have hq2 : p2.length ≤ 18 := by rw [← hp2.out, List.length_append]; omega
  have hq3 : p3.length ≤ 27 := by rw [← hp3.out, List.length_append]; omega
  have e3 : putNum 0 ++ (putNum number ++ putNum time) = p3 := by rw [← hp3.out, ← hp2.out, ← hp1.out]; simp only [List.append_assoc]
  rw [e3]
  have HT1 : ∀ b w1, Wr w1 b [] → Calls Try.prog 19 #[.pointer (some ⟨b, 0, none⟩), .int .i64 0] w1 fun e w' => e = .returned (.tuple #[]) ∧ Wr w' b p1 ∧ BK b w1 w' := fun b w1 h1 => by
    rw [← hp1.out]; exact writer_number_k 0 (by omega) (by simp) h1
  have HT2 : ∀ b w1, Wr w1 b p1 → Calls Try.prog 19 #[.pointer (some ⟨b, 0, none⟩), .int .i64 number] w1 fun e w' => e = .returned (.tuple #[]) ∧ Wr w' b p2 ∧ BK b w1 w' := fun b w1 h1 => by
    rw [← hp2.out]; exact writer_number_k number (by omega) (by omega) h1
  have HT3 : ∀ b w1, Wr w1 b p2 → Calls Try.prog 19 #[.pointer (some ⟨b, 0, none⟩), .int .i64 time] w1 fun e w' => e = .returned (.tuple #[]) ∧ Wr w' b p3 ∧ BK b w1 w' := fun b w1 h1 => by
    rw [← hp3.out]; exact writer_number_k time (by omega) (by omega) h1
  have HT1 := Lib.hid HT1
  have HT2 := Lib.hid HT2
  have HT3 := Lib.hid HT3
  have H2 := Lib.hid h2
  have H3 := Lib.hid h3
  obtain ⟨W3, hW⟩ := hide (((w.alloc (.cells #[.int .i64 0, .int .i64 number, .int .i64 0, str [], str [], .int .i64 0, .int .i64 time] 27)).alloc (.cells #[.int .i64 0, str [], str [], .int .i64 0] 25)).alloc (.cells #[.slice none 0 0] 63))
  have hc : W3.heap[w.heap.size]? = some (.cells #[.int .i64 0, .int .i64 number, .int .i64 0, str [], str [], .int .i64 0, .int .i64 time] 27 (0, 0)) := by
    rw [← hW.out]; exact (hp_past _ _ (by simp only [World.size_alloc]; omega)).trans ((hp_past _ _ (by simp only [World.size_alloc]; omega)).trans (hp_at _ _ rfl))
  have hw : Wr W3 (w.heap.size + 1 + 1) [] := by
    rw [← hW.out]; exact ⟨_, hp_at _ _ (by simp only [World.size_alloc]), World.ownsRow_nil _ _ _ _⟩
  have hb : Below w.heap.size w W3 := by
    rw [← hW.out]
    exact (((Below.refl _ _).alloc (Nat.le_refl _) _).alloc (by simp) _).alloc (by simp; omega) _
  have Hc := Lib.hid hc
  have Hw := Lib.hid hw
  have Hb := Lib.hid hb
  have Hne : Hid (w.heap.size ≠ w.heap.size + 1 + 1) := by show _ ≠ _; omega
  clear hc hw hb hl1 hl2 hl3 hq1 hq2 hq3 e3 hb2 hb3 h2 h3
  go_enter Try.func5, Try.ntmps5
  go_wp2_with (first
    | (go_at_call 18; refine (in_any _ _ _ _).mono ?_; rintro e w' ⟨rfl, rfl⟩; first | rw [H2.out] | rw [H3.out] | rw [H1.out])
    | (go_at_call 17; refine (wire_isCommand _ _ _ _ _).mono ?_; rintro e w' ⟨rfl, rfl⟩; rw [H0.out]))
  rw [hW.out]
  refine (HT1.out _ _ Hw.out).mono ?_
  rintro e w1 ⟨rfl, hw1, hb1⟩
  have hc1 := hb1.2 _ _ _ Hne.out hT Hc.out
  obtain ⟨c0, c1, c2, c3, c4, c5, c6⟩ := seven_cells hc1
  have Hc1 := Lib.hid hc1
  have Hb1 := Lib.hid (Hb.out.trans (hb1.1.mono (by omega)))
  have Hw1 := Lib.hid hw1
  clear hc1 hb1 hw1
  go_wp2_with fail
  refine (HT2.out _ _ Hw1.out).mono ?_
  clear c0 c1 c2 c3 c4 c5 c6
  rintro e w2 ⟨rfl, hw1, hb1⟩
  have hc1 := hb1.2 _ _ _ Hne.out hT Hc1.out
  obtain ⟨c0, c1, c2, c3, c4, c5, c6⟩ := seven_cells hc1
  have Hc2 := Lib.hid hc1
  have Hb2 := Lib.hid (Hb1.out.trans (hb1.1.mono (by omega)))
  have Hw2 := Lib.hid hw1
  clear hc1 hb1 hw1
  go_wp2_with fail
  refine (HT3.out _ _ Hw2.out).mono ?_
  clear c0 c1 c2 c3 c4 c5 c6
  rintro e w3 ⟨rfl, hw1, hb1⟩
  have hc1 := hb1.2 _ _ _ Hne.out hT Hc2.out
  have Hc3 := Lib.hid hc1
  have Hb3 := Lib.hid (Hb2.out.trans (hb1.1.mono (by omega)))
  have Hw3 := Lib.hid hw1
  obtain ⟨v, hv, ho⟩ := hw1
  have d0 := cell_of_one hv
  have kc := writer_str ho
  obtain ⟨c0, c1, c2, c3, c4, c5, c6⟩ := seven_cells hc1
  clear hv ho hc1 hb1
  go_wp2_with fail
  go_ret2
  exact ⟨rfl, Hb3.out⟩

set_option maxHeartbeats 2000000 in
theorem wire_putRequest_some (client number kind : Nat) (key val : List UInt8) (iff time : Nat) (w : World) (hn : ¬ (client : Int) = 0) (h0 : isCommand kind key val iff = true) (h1 : inB client 0 1099511627775 = true) (h2 : inB number 0 1099511627775 = true) (h3 : inB time 0 1099511627775 = true) :
    Calls Try.prog 5 #[vReq client number kind key val iff time] w fun e w' => e = .returned (.tuple #[str (putNum client ++ (putNum number ++ (putNum time ++ putCmd kind key val iff))), .int .i64 0]) ∧ Below w.heap.size w w' := by
  have H1 := Lib.hid h1
  have H0 := Lib.hid h0
  have hb1 := (inB_of h1).2
  obtain ⟨hk1, hk2, hk3, hk4⟩ := isCommand_facts h0
  have hk5 := (inB_of hk1).2
  have hk6 := (inB_of hk4).2
  have hn0 : ((client : Int) == 0) = false := beq_eq_false_iff_ne.2 hn
  have hn2 : client ≠ 0 := fun e => hn (by rw [e]; rfl)
  have hb2 := (inB_of h2).2
  have hb3 := (inB_of h3).2
  have hl1 := putNum_len10 (n := client) (by omega)
  have hl2 := putNum_len10 (n := number) (by omega)
  have hl3 := putNum_len10 (n := time) (by omega)
  have hT : (27 : TypeId) ≠ 5 := by decide
  obtain ⟨p1, hp1⟩ := hide (putNum client)
  obtain ⟨p2, hp2⟩ := hide (p1 ++ putNum number)
  obtain ⟨p3, hp3⟩ := hide (p2 ++ putNum time)
  have hq1 : p1.length ≤ 9 := by rw [← hp1.out]; omega
  have hq2 : p2.length ≤ 18 := by rw [← hp2.out, List.length_append]; omega
  have hq3 : p3.length ≤ 27 := by rw [← hp3.out, List.length_append]; omega
  obtain ⟨p4, hp4⟩ := hide (p3 ++ putCmd kind key val iff)
  have e3 : putNum client ++ (putNum number ++ (putNum time ++ putCmd kind key val iff)) = p4 := by rw [← hp4.out, ← hp3.out, ← hp2.out, ← hp1.out]; simp only [List.append_assoc]
  rw [e3]
  have HT1 : ∀ b w1, Wr w1 b [] → Calls Try.prog 19 #[.pointer (some ⟨b, 0, none⟩), .int .i64 client] w1 fun e w' => e = .returned (.tuple #[]) ∧ Wr w' b p1 ∧ BK b w1 w' := fun b w1 h1 => by
    rw [← hp1.out]; exact writer_number_k client (by omega) (by simp) h1
  have HT2 : ∀ b w1, Wr w1 b p1 → Calls Try.prog 19 #[.pointer (some ⟨b, 0, none⟩), .int .i64 number] w1 fun e w' => e = .returned (.tuple #[]) ∧ Wr w' b p2 ∧ BK b w1 w' := fun b w1 h1 => by
    rw [← hp2.out]; exact writer_number_k number (by omega) (by omega) h1
  have HT3 : ∀ b w1, Wr w1 b p2 → Calls Try.prog 19 #[.pointer (some ⟨b, 0, none⟩), .int .i64 time] w1 fun e w' => e = .returned (.tuple #[]) ∧ Wr w' b p3 ∧ BK b w1 w' := fun b w1 h1 => by
    rw [← hp3.out]; exact writer_number_k time (by omega) (by omega) h1
  have HT4 : ∀ b w1, Wr w1 b p3 → Calls Try.prog 20 #[.pointer (some ⟨b, 0, none⟩), vCmd kind key val iff] w1 fun e w' => e = .returned (.tuple #[]) ∧ Wr w' b p4 ∧ BK b w1 w' := fun b w1 h1 => by
    rw [← hp4.out]; exact writer_command kind key val iff (by omega) (by omega) (by omega) h1
  have HT4 := Lib.hid HT4
  have HT1 := Lib.hid HT1
  have HT2 := Lib.hid HT2
  have HT3 := Lib.hid HT3
  have H2 := Lib.hid h2
  have H3 := Lib.hid h3
  obtain ⟨W3, hW⟩ := hide (((w.alloc (.cells #[.int .i64 client, .int .i64 number, .int .i64 kind, str key, str val, .int .i64 iff, .int .i64 time] 27)).alloc (.cells #[.int .i64 kind, str key, str val, .int .i64 iff] 25)).alloc (.cells #[.slice none 0 0] 63))
  have hc : W3.heap[w.heap.size]? = some (.cells #[.int .i64 client, .int .i64 number, .int .i64 kind, str key, str val, .int .i64 iff, .int .i64 time] 27 (0, 0)) := by
    rw [← hW.out]; exact (hp_past _ _ (by simp only [World.size_alloc]; omega)).trans ((hp_past _ _ (by simp only [World.size_alloc]; omega)).trans (hp_at _ _ rfl))
  have hw : Wr W3 (w.heap.size + 1 + 1) [] := by
    rw [← hW.out]; exact ⟨_, hp_at _ _ (by simp only [World.size_alloc]), World.ownsRow_nil _ _ _ _⟩
  have hb : Below w.heap.size w W3 := by
    rw [← hW.out]
    exact (((Below.refl _ _).alloc (Nat.le_refl _) _).alloc (by simp) _).alloc (by simp; omega) _
  have Hc := Lib.hid hc
  have Hw := Lib.hid hw
  have Hb := Lib.hid hb
  have Hne : Hid (w.heap.size ≠ w.heap.size + 1 + 1) := by show _ ≠ _; omega
  clear hc hw hb hl1 hl2 hl3 hq1 hq2 hq3 e3 hb2 hb3 h2 h3 hb1 hk1 hk2 hk3 hk4 hk5 hk6 h0 h1
  go_enter Try.func5, Try.ntmps5
  go_wp2_with (first
    | (go_at_call 18; refine (in_any _ _ _ _).mono ?_; rintro e w' ⟨rfl, rfl⟩; first | rw [H2.out] | rw [H3.out] | rw [H1.out])
    | (go_at_call 17; refine (wire_isCommand _ _ _ _ _).mono ?_; rintro e w' ⟨rfl, rfl⟩; rw [H0.out]))
  rw [hW.out]
  refine (HT1.out _ _ Hw.out).mono ?_
  rintro e w1 ⟨rfl, hw1, hb1⟩
  have hc1 := hb1.2 _ _ _ Hne.out hT Hc.out
  obtain ⟨c0, c1, c2, c3, c4, c5, c6⟩ := seven_cells hc1
  have Hc1 := Lib.hid hc1
  have Hb1 := Lib.hid (Hb.out.trans (hb1.1.mono (by omega)))
  have Hw1 := Lib.hid hw1
  clear hc1 hb1 hw1
  go_wp2_with fail
  refine (HT2.out _ _ Hw1.out).mono ?_
  clear c0 c1 c2 c3 c4 c5 c6
  rintro e w2 ⟨rfl, hw1, hb1⟩
  have hc1 := hb1.2 _ _ _ Hne.out hT Hc1.out
  obtain ⟨c0, c1, c2, c3, c4, c5, c6⟩ := seven_cells hc1
  have Hc2 := Lib.hid hc1
  have Hb2 := Lib.hid (Hb1.out.trans (hb1.1.mono (by omega)))
  have Hw2 := Lib.hid hw1
  clear hc1 hb1 hw1
  go_wp2_with fail
  refine (HT3.out _ _ Hw2.out).mono ?_
  clear c0 c1 c2 c3 c4 c5 c6
  rintro e w3 ⟨rfl, hw1, hb1⟩
  have hc1 := hb1.2 _ _ _ Hne.out hT Hc2.out
  obtain ⟨c0, c1, c2, c3, c4, c5, c6⟩ := seven_cells hc1
  have Hc3 := Lib.hid hc1
  have Hb3 := Lib.hid (Hb2.out.trans (hb1.1.mono (by omega)))
  have Hw3 := Lib.hid hw1
  clear hc1 hb1 hw1
  go_wp2_with fail
  refine (HT4.out _ _ Hw3.out).mono ?_
  clear c0 c1 c2 c3 c4 c5 c6
  rintro e w4 ⟨rfl, hw1, hb1⟩
  have hc1 := hb1.2 _ _ _ Hne.out hT Hc3.out
  have Hc4 := Lib.hid hc1
  have Hb4 := Lib.hid (Hb3.out.trans (hb1.1.mono (by omega)))
  have Hw4 := Lib.hid hw1
  obtain ⟨v, hv, ho⟩ := hw1
  have d0 := cell_of_one hv
  have kc := writer_str ho
  obtain ⟨c0, c1, c2, c3, c4, c5, c6⟩ := seven_cells hc1
  clear hv ho hc1 hb1
  go_wp2_with fail
  go_ret2
  exact ⟨rfl, Hb4.out⟩
end Go.Proofs.Ytcgfbmlmpcfbgaa
