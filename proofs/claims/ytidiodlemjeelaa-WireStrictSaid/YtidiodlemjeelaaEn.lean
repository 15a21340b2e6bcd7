/-
  Entries: may one be? both ways; writing them, both ways.
-/
import Derived.Test.YtidiodlemjeelaaRqp
import Derived.Test.YtidiodlemjeelaaCx
namespace Go.Proofs.Ytidiodlemjeelaa
open Go.RowKit Wm Mm
set_option linter.unusedVariables false

set_option maxHeartbeats 400000 in
theorem ref_in_any (n low high : Int) (w : World) :
    Calls Try.prog 218 #[.int .i64 n, .int .i64 low, .int .i64 high] w fun e w' => e = .returned (.bool (inB n low high)) ∧ w = w' := by
  by_cases h1 : low ≤ n
  · have t1 : decide (low ≤ n) = true := decide_eq_true h1
    have e1 : inB n low high = decide (n ≤ high) := by unfold inB; rw [t1]; rfl
    rw [e1]
    clear h1 e1
    go_enter Try.func218, Try.ntmps218
    go_wp2
    go_ret
    exact ⟨rfl, rfl⟩
  · have t1 : decide (low ≤ n) = false := decide_eq_false h1
    have e1 : inB n low high = false := by unfold inB; rw [t1]; rfl
    rw [e1]
    clear h1 e1
    go_enter Try.func218, Try.ntmps218
    go_wp2
    go_ret
    exact ⟨rfl, rfl⟩

/-- may an entry be? -/
def isEntry (index term kind : Int) (data : List UInt8) : Bool :=
  inB index 1 1099511627775 && (inB term 1 1099511627775 && (inB kind 0 2 && (decide (data.length ≤ 256) && (!(decide (kind = 0)) || data == []))))
abbrev vEnt (index term kind : Int) (data : List UInt8) : Value := .agg #[.int .i64 index, .int .i64 term, .int .i64 kind, str data]

set_option maxHeartbeats 2000000 in
theorem wire_isEntry (index term kind : Int) (data : List UInt8) (w : World) :
    Calls Try.prog 137 #[vEnt index term kind data] w fun e w' => e = .returned (.bool (isEntry index term kind data)) ∧ w.alloc (.cells #[.int .i64 index, .int .i64 term, .int .i64 kind, str data] 69) = w' := by
  obtain ⟨r, hr⟩ := hide (isEntry index term kind data)
  rw [hr.out]
  go_enter Try.func137, Try.ntmps137
  go_wp2_with (go_at_call 132; refine (in_any _ _ _ _).mono ?_; rintro e w' ⟨rfl, rfl⟩)
  all_goals
    go_ret
    refine ⟨congrArg (fun b => Ending.returned (.bool b)) ?_, by first | rfl | (simp_all; done)⟩
    rw [← hr.out]
    clear hr
    first
      | (simp_all [isEntry]; done)
      | (simp_all [isEntry]; omega)

set_option maxHeartbeats 2000000 in
theorem ref_isEntry (index term kind : Int) (data : List UInt8) (w : World) :
    Calls Try.prog 170 #[vEnt index term kind data] w fun e w' => e = .returned (.bool (isEntry index term kind data)) ∧ w.alloc (.cells #[.int .i64 index, .int .i64 term, .int .i64 kind, str data] 69) = w' := by
  obtain ⟨r, hr⟩ := hide (isEntry index term kind data)
  rw [hr.out]
  go_enter Try.func170, Try.ntmps170
  go_wp2_with (go_at_call 218; refine (ref_in_any _ _ _ _).mono ?_; rintro e w' ⟨rfl, rfl⟩)
  all_goals
    go_ret
    refine ⟨congrArg (fun b => Ending.returned (.bool b)) ?_, by first | rfl | (simp_all; done)⟩
    rw [← hr.out]
    clear hr
    first
      | (simp_all [isEntry]; done)
      | (simp_all [isEntry, inB]; done)
      | (simp_all [isEntry, inB]; omega)

def putEnt (index term kind : Nat) (data : List UInt8) : List UInt8 := putNum index ++ (putNum term ++ (putNum kind ++ putText data))

set_option maxHeartbeats 1000000 in
theorem writer_entry {w : World} {b : Nat} {xs : List UInt8} (index term kind : Nat) (data : List UInt8) (h1 : index < 9223372036854775808) (h2 : term < 9223372036854775808) (h3 : kind < 9223372036854775808)
    (hx : xs.length + data.length ≤ 140737488355000) (h : Wr w b xs) :
    Calls Try.prog 108 #[.pointer (some ⟨b, 0, none⟩), vEnt index term kind data] w fun e w' =>
      e = .returned (.tuple #[]) ∧ Wr w' b (xs ++ putEnt index term kind data) ∧ BK b w w' := by
  have hbw : b < w.heap.size := by obtain ⟨v, hb, _⟩ := h; exact lt_of_block hb
  have hl1 := putNum_len10 h1
  have hl2 := putNum_len10 h2
  have hl3 := putNum_len10 h3
  have hT : (69 : TypeId) ≠ 5 := by decide
  have ha : Wr (w.alloc (.cells #[.int .i64 index, .int .i64 term, .int .i64 kind, str data] 69)) b xs := by
    obtain ⟨v, hb, ho⟩ := h
    exact ⟨v, (hp_past _ _ (by omega)).trans hb, ho.alloc _⟩
  have hba : BK b w (w.alloc (.cells #[.int .i64 index, .int .i64 term, .int .i64 kind, str data] 69)) := BK.alloc _ (by omega)
  have hc : (w.alloc (.cells #[.int .i64 index, .int .i64 term, .int .i64 kind, str data] 69)).heap[w.heap.size]? = some (.cells #[.int .i64 index, .int .i64 term, .int .i64 kind, str data] 69 (0, 0)) := hp_at _ _ rfl
  obtain ⟨p1, hp1⟩ := hide (xs ++ putNum index)
  obtain ⟨p2, hp2⟩ := hide (p1 ++ putNum term)
  obtain ⟨p3, hp3⟩ := hide (p2 ++ putNum kind)
  obtain ⟨p4, hp4⟩ := hide (p3 ++ putText data)
  have hq1 : p1.length ≤ xs.length + 9 := by rw [← hp1.out, List.length_append]; omega
  have hq2 : p2.length ≤ xs.length + 18 := by rw [← hp2.out, List.length_append]; omega
  have hq3 : p3.length ≤ xs.length + 27 := by rw [← hp3.out, List.length_append]; omega
  have e4 : xs ++ putEnt index term kind data = p4 := by rw [← hp4.out, ← hp3.out, ← hp2.out, ← hp1.out, putEnt]; simp only [List.append_assoc]
  rw [e4]
  have HN := Lib.hid (writer_number_k index h1 (by omega) ha)
  rw [hp1.out] at HN
  have HT1 : ∀ w1, Wr w1 b p1 → Calls Try.prog 106 #[.pointer (some ⟨b, 0, none⟩), .int .i64 term] w1 fun e w' => e = .returned (.tuple #[]) ∧ Wr w' b p2 ∧ BK b w1 w' := fun w1 hw => by
    rw [← hp2.out]; exact writer_number_k term h2 (by omega) hw
  have HT2 : ∀ w1, Wr w1 b p2 → Calls Try.prog 106 #[.pointer (some ⟨b, 0, none⟩), .int .i64 kind] w1 fun e w' => e = .returned (.tuple #[]) ∧ Wr w' b p3 ∧ BK b w1 w' := fun w1 hw => by
    rw [← hp3.out]; exact writer_number_k kind h3 (by omega) hw
  have HT3 : ∀ w1, Wr w1 b p3 → Calls Try.prog 143 #[.pointer (some ⟨b, 0, none⟩), str data] w1 fun e w' => e = .returned (.tuple #[]) ∧ Wr w' b p4 ∧ BK b w1 w' := fun w1 hw => by
    rw [← hp4.out]; exact writer_text_k data (by omega) hw
  have HT1 := Lib.hid HT1
  have HT2 := Lib.hid HT2
  have HT3 := Lib.hid HT3
  have Hba := Lib.hid hba
  have Hc := Lib.hid hc
  have Hbn : Hid (w.heap.size ≠ b) := by show _ ≠ _; omega
  clear h ha hba hc hx h1 h2 h3 hl1 hl2 hl3 hq1 hq2 hq3 e4 hbw
  go_enter Try.func108, Try.ntmps108
  go_wp2_with fail
  refine HN.out.mono ?_
  rintro e w1 ⟨rfl, hw1, hb1⟩
  have hc1 := hb1.2 _ _ _ Hbn.out hT Hc.out
  obtain ⟨c0, c1, c2, c3⟩ := four_cells hc1
  have Hc1 := Lib.hid hc1
  have Hb1 := Lib.hid (Hba.out.trans hb1)
  have Hw1 := Lib.hid hw1
  clear hc1 hb1 hw1
  go_wp2_with fail
  refine (HT1.out _ Hw1.out).mono ?_
  clear c0 c1 c2 c3
  rintro e w2 ⟨rfl, hw1, hb1⟩
  have hc1 := hb1.2 _ _ _ Hbn.out hT Hc1.out
  obtain ⟨c0, c1, c2, c3⟩ := four_cells hc1
  have Hc2 := Lib.hid hc1
  have Hb2 := Lib.hid (Hb1.out.trans hb1)
  have Hw2 := Lib.hid hw1
  clear hc1 hb1 hw1
  go_wp2_with fail
  refine (HT2.out _ Hw2.out).mono ?_
  clear c0 c1 c2 c3
  rintro e w3 ⟨rfl, hw1, hb1⟩
  have hc1 := hb1.2 _ _ _ Hbn.out hT Hc2.out
  obtain ⟨c0, c1, c2, c3⟩ := four_cells hc1
  have Hc3 := Lib.hid hc1
  have Hb3 := Lib.hid (Hb2.out.trans hb1)
  have Hw3 := Lib.hid hw1
  clear hc1 hb1 hw1
  go_wp2_with fail
  refine (HT3.out _ Hw3.out).mono ?_
  clear c0 c1 c2 c3
  rintro e w4 ⟨rfl, hw1, hb1⟩
  have Hb4 := Lib.hid (Hb3.out.trans hb1)
  have Hw4 := Lib.hid hw1
  clear hb1 hw1
  go_wp2_with fail
  go_end0
  exact ⟨rfl, Hw4.out, Hb4.out⟩
end Go.Proofs.Ytidiodlemjeelaa
