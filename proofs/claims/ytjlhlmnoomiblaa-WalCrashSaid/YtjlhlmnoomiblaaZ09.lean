/-
  Entries: may one be? both ways; writing them, both ways. Entries as bytes, both ways.
-/
import Derived.Test.YtjlhlmnoomiblaaZ08
import Derived.Test.YtjlhlmnoomiblaaZ03
import Derived.Test.YtjlhlmnoomiblaaZ07
import Derived.Deep.DeepCutAuto
namespace Go.Proofs.Ytjlhlmnoomiblaa
open Go.RowKit Wm Mm
set_option linter.unusedVariables false

/-- may an entry be? -/
def isEntry (index term kind : Int) (data : List UInt8) : Bool :=
  inB index 1 1099511627775 && (inB term 1 1099511627775 && (inB kind 0 2 && (decide (data.length ≤ 256) && (!(decide (kind = 0)) || data == []))))
abbrev vEnt (index term kind : Int) (data : List UInt8) : Value := .agg #[.int .i64 index, .int .i64 term, .int .i64 kind, str data]

set_option maxHeartbeats 2000000 in
theorem wire_isEntry (index term kind : Int) (data : List UInt8) (w : World) :
    Calls Try.prog 42 #[vEnt index term kind data] w fun e w' => e = .returned (.bool (isEntry index term kind data)) ∧ w.alloc (.cells #[.int .i64 index, .int .i64 term, .int .i64 kind, str data] 37) = w' := by
  obtain ⟨r, hr⟩ := hide (isEntry index term kind data)
  rw [hr.out]
  go_enter Try.func42, Try.ntmps42
  go_wp2_with (go_at_call 53; refine (in_any _ _ _ _).mono ?_; rintro e w' ⟨rfl, rfl⟩)
  all_goals
    go_ret
    refine ⟨congrArg (fun b => Ending.returned (.bool b)) ?_, by first | rfl | (simp_all; done)⟩
    rw [← hr.out]
    clear hr
    first
      | (simp_all [isEntry]; done)
      | (simp_all [isEntry]; omega)

def putEnt (index term kind : Nat) (data : List UInt8) : List UInt8 := putNum index ++ (putNum term ++ (putNum kind ++ putText data))

set_option maxHeartbeats 1000000 in
theorem writer_entry {w : World} {b : Nat} {xs : List UInt8} (index term kind : Nat) (data : List UInt8) (h1 : index < 9223372036854775808) (h2 : term < 9223372036854775808) (h3 : kind < 9223372036854775808)
    (hx : xs.length + data.length ≤ 140737488355000) (h : Wr w b xs) :
    Calls Try.prog 43 #[.pointer (some ⟨b, 0, none⟩), vEnt index term kind data] w fun e w' =>
      e = .returned (.tuple #[]) ∧ Wr w' b (xs ++ putEnt index term kind data) ∧ BK b w w' := by
  have hbw : b < w.heap.size := by obtain ⟨v, hb, _⟩ := h; exact lt_of_block hb
  have hl1 := putNum_len10 h1
  have hl2 := putNum_len10 h2
  have hl3 := putNum_len10 h3
  have hT : (37 : TypeId) ≠ 5 := by decide
  have ha : Wr (w.alloc (.cells #[.int .i64 index, .int .i64 term, .int .i64 kind, str data] 37)) b xs := by
    obtain ⟨v, hb, ho⟩ := h
    exact ⟨v, (hp_past _ _ (by omega)).trans hb, ho.alloc _⟩
  have hba : BK b w (w.alloc (.cells #[.int .i64 index, .int .i64 term, .int .i64 kind, str data] 37)) := BK.alloc _ (by omega)
  have hc : (w.alloc (.cells #[.int .i64 index, .int .i64 term, .int .i64 kind, str data] 37)).heap[w.heap.size]? = some (.cells #[.int .i64 index, .int .i64 term, .int .i64 kind, str data] 37 (0, 0)) := hp_at _ _ rfl
  obtain ⟨p1, hp1⟩ := hide (xs ++ putNum index)
  obtain ⟨p2, hp2⟩ := hide (p1 ++ putNum term)
  obtain ⟨p3, hp3⟩ := hide (p2 ++ putNum kind)
  obtain ⟨p4, hp4⟩ := hide (p3 ++ putText data)
  have hq1 : p1.length ≤ xs.length + 9 := by rw [← hp1.out, List.length_append]; omega
  have hq2 : p2.length ≤ xs.length + 18 := by rw [← hp2.out, List.length_append]; omega
  have hq3 : p3.length ≤ xs.length + 27 := by rw [← hp3.out, List.length_append]; omega
  have e4 : xs ++ putEnt index term kind data = p4 := by rw [← hp4.out, ← hp3.out, ← hp2.out, ← hp1.out, putEnt]; simp only [List.append_assoc]
  rw [e4]
  have HN := Lib.hid (writer_number_k index h1 (by omega) ha)
  rw [hp1.out] at HN
  have HT1 : ∀ w1, Wr w1 b p1 → Calls Try.prog 41 #[.pointer (some ⟨b, 0, none⟩), .int .i64 term] w1 fun e w' => e = .returned (.tuple #[]) ∧ Wr w' b p2 ∧ BK b w1 w' := fun w1 hw => by
    rw [← hp2.out]; exact writer_number_k term h2 (by omega) hw
  have HT2 : ∀ w1, Wr w1 b p2 → Calls Try.prog 41 #[.pointer (some ⟨b, 0, none⟩), .int .i64 kind] w1 fun e w' => e = .returned (.tuple #[]) ∧ Wr w' b p3 ∧ BK b w1 w' := fun w1 hw => by
    rw [← hp3.out]; exact writer_number_k kind h3 (by omega) hw
  have HT3 : ∀ w1, Wr w1 b p3 → Calls Try.prog 55 #[.pointer (some ⟨b, 0, none⟩), str data] w1 fun e w' => e = .returned (.tuple #[]) ∧ Wr w' b p4 ∧ BK b w1 w' := fun w1 hw => by
    rw [← hp4.out]; exact writer_text_k data (by omega) hw
  have HT1 := Lib.hid HT1
  have HT2 := Lib.hid HT2
  have HT3 := Lib.hid HT3
  have Hba := Lib.hid hba
  have Hc := Lib.hid hc
  have Hbn : Hid (w.heap.size ≠ b) := by show _ ≠ _; omega
  clear h ha hba hc hx h1 h2 h3 hl1 hl2 hl3 hq1 hq2 hq3 e4 hbw
  go_enter Try.func43, Try.ntmps43
  go_wp2_with fail
  refine HN.out.mono ?_
  rintro e w1 ⟨rfl, hw1, hb1⟩
  have hc1 := hb1.2 _ _ _ Hbn.out hT Hc.out
  obtain ⟨c0, c1, c2, c3⟩ := four_cells hc1
  have Hc1 := Lib.hid hc1
  have Hb1 := Lib.hid (Hba.out.trans hb1)
  have Hw1 := Lib.hid hw1
  clear hc1 hb1 hw1
  go_wp2_with fail
  refine (HT1.out _ Hw1.out).mono ?_
  clear c0 c1 c2 c3
  rintro e w2 ⟨rfl, hw1, hb1⟩
  have hc1 := hb1.2 _ _ _ Hbn.out hT Hc1.out
  obtain ⟨c0, c1, c2, c3⟩ := four_cells hc1
  have Hc2 := Lib.hid hc1
  have Hb2 := Lib.hid (Hb1.out.trans hb1)
  have Hw2 := Lib.hid hw1
  clear hc1 hb1 hw1
  go_wp2_with fail
  refine (HT2.out _ Hw2.out).mono ?_
  clear c0 c1 c2 c3
  rintro e w3 ⟨rfl, hw1, hb1⟩
  have hc1 := hb1.2 _ _ _ Hbn.out hT Hc2.out
  obtain ⟨c0, c1, c2, c3⟩ := four_cells hc1
  have Hc3 := Lib.hid hc1
  have Hb3 := Lib.hid (Hb2.out.trans hb1)
  have Hw3 := Lib.hid hw1
  clear hc1 hb1 hw1
  go_wp2_with fail
  refine (HT3.out _ Hw3.out).mono ?_
  clear c0 c1 c2 c3
  rintro e w4 ⟨rfl, hw1, hb1⟩
  have Hb4 := Lib.hid (Hb3.out.trans hb1)
  have Hw4 := Lib.hid hw1
  clear hb1 hw1
  go_wp2_with fail
  go_end0
  exact ⟨rfl, Hw4.out, Hb4.out⟩
end Go.Proofs.Ytjlhlmnoomiblaa

namespace Go.Proofs.Ytjlhlmnoomiblaa
open Go.RowKit Wm Mm
set_option linter.unusedVariables false

theorem isEntry_facts {index term kind : Int} {data : List UInt8} (h : isEntry index term kind data = true) :
    ∃ a b k : Nat, index = a ∧ term = b ∧ kind = k ∧ a < 1099511627776 ∧ b < 1099511627776 ∧ k < 3 ∧ data.length ≤ 256 := by
  simp only [isEntry, Bool.and_eq_true, decide_eq_true_eq] at h
  obtain ⟨h1, h2, h3, h4, _⟩ := h
  have g1 := inB_of h1
  have g2 := inB_of h2
  have g3 := inB_of h3
  exact ⟨index.toNat, term.toNat, kind.toNat, by omega, by omega, by omega, by omega, by omega, by omega, h4⟩
def putEntB (index term kind : Int) (data : List UInt8) : List UInt8 := if isEntry index term kind data = true then putEnt index.toNat term.toNat kind.toNat data else []
def putEntE (index term kind : Int) (data : List UInt8) : Int := if isEntry index term kind data = true then 0 else 6
theorem putEnt_len (a b k : Nat) (data : List UInt8) (h1 : a < 1099511627776) (h2 : b < 1099511627776) (h3 : k < 3) (h4 : data.length ≤ 256) : (putEnt a b k data).length ≤ 292 := by
  have g1 := putNum_len10 (n := a) (by omega)
  have g2 := putNum_len10 (n := b) (by omega)
  have g3 := putNum_len10 (n := k) (by omega)
  have g4 := putText_len data (by omega)
  simp [putEnt]; omega

set_option maxHeartbeats 2000000 in
theorem wire_putEntry (index term kind : Int) (data : List UInt8) (w : World) :
    Calls Try.prog 24 #[vEnt index term kind data] w fun e w' =>
      e = .returned (.tuple #[str (putEntB index term kind data), .int .i64 (putEntE index term kind data)]) ∧ Below w.heap.size w w' := by
  have hwv : ∀ w1, Calls Try.prog 42 #[vEnt index term kind data] w1 fun e w' => e = .returned (.bool (isEntry index term kind data)) ∧ w1.alloc (.cells #[.int .i64 index, .int .i64 term, .int .i64 kind, str data] 37) = w' := fun w1 => wire_isEntry index term kind data w1
  unfold putEntB putEntE
  cases hok : isEntry index term kind data with
  | false =>
    rw [hok] at hwv
    have HV := Lib.hid hwv
    clear hwv hok
    go_enter Try.func24, Try.ntmps24
    go_wp2_with fail
    refine (HV.out _).mono ?_
    rintro e w1 ⟨rfl, hw1⟩
    have hb : Below w.heap.size w w1 := by rw [← hw1]; exact ((Below.refl _ _).alloc (Nat.le_refl _) _).alloc (by simp) _
    have Hb := Lib.hid hb
    clear hb hw1
    go_wp2_with fail
    go_ret2
    exact ⟨rfl, Hb.out⟩
  | true =>
    rw [hok] at hwv
    have HV := Lib.hid hwv
    obtain ⟨a, b, k, rfl, rfl, rfl, h1, h2, h3, h4⟩ := isEntry_facts hok
    clear hwv hok
    rw [if_pos rfl, if_pos rfl]
    simp only [Int.toNat_natCast]
    obtain ⟨p, hp⟩ := hide (putEnt a b k data)
    have HW : ∀ bb w1, Wr w1 bb [] → Calls Try.prog 43 #[.pointer (some ⟨bb, 0, none⟩), vEnt a b k data] w1 fun e w' => e = .returned (.tuple #[]) ∧ Wr w' bb p ∧ BK bb w1 w' := fun bb w1 hw => by
      have := writer_entry a b k data (by omega) (by omega) (by omega) (by simp; omega) hw
      rw [List.nil_append, hp.out] at this
      exact this
    have HW := Lib.hid HW
    rw [hp.out]
    clear h1 h2 h3 h4
    have hc0 : (w.alloc (.cells #[.int .i64 a, .int .i64 b, .int .i64 k, str data] 37)).heap[w.heap.size]? = some (.cells #[.int .i64 a, .int .i64 b, .int .i64 k, str data] 37 (0, 0)) := hp_at _ _ rfl
    obtain ⟨W1, hW1⟩ := hide (w.alloc (.cells #[.int .i64 a, .int .i64 b, .int .i64 k, str data] 37))
    have hb1 : Below w.heap.size w W1 := by rw [← hW1.out]; exact (Below.refl _ _).alloc (Nat.le_refl _) _
    rw [hW1.out] at hc0
    obtain ⟨B, hB⟩ := hide w.heap.size
    rw [hB.out] at hc0 hb1
    have c0 := cell_n hc0 0 (v := .int .i64 a) rfl
    have c1 := cell_n hc0 1 (v := .int .i64 b) rfl
    have c2 := cell_n hc0 2 (v := .int .i64 k) rfl
    have c3 := cell_n hc0 3 (v := str data) rfl
    have Hc0 := Lib.hid hc0
    have Hb1 := Lib.hid hb1
    clear hc0 hb1
    go_enter Try.func24, Try.ntmps24
    go_upto_region 1 with fail
    rw [hW1.out, hB.out]
    go_wp2_with fail
    refine (HV.out _).mono ?_
    rintro e W2 ⟨rfl, hw2⟩
    have hc2 : W2.heap[B]? = some (.cells #[.int .i64 a, .int .i64 b, .int .i64 k, str data] 37 (0, 0)) := by rw [← hw2]; exact (hp_past _ _ (by have := lt_of_block Hc0.out; omega)).trans Hc0.out
    have hb2 : Below B w W2 := by rw [← hw2]; exact Hb1.out.alloc (by have := lt_of_block Hc0.out; omega) _
    obtain ⟨W3, hW3⟩ := hide (W2.alloc (.cells #[.slice none 0 0] 99))
    have hc3 : W3.heap[B]? = some (.cells #[.int .i64 a, .int .i64 b, .int .i64 k, str data] 37 (0, 0)) := by rw [← hW3.out]; exact (hp_past _ _ (by have := lt_of_block hc2; omega)).trans hc2
    have hb3 : Below B w W3 := by rw [← hW3.out]; exact hb2.alloc (by have := lt_of_block hc2; omega) _
    have hw3 : Wr W3 W2.heap.size [] := by rw [← hW3.out]; exact ⟨_, hp_at _ _ rfl, World.ownsRow_nil _ _ _ _⟩
    have Hlt : Hid (B ≤ W2.heap.size) := by have := lt_of_block hc2; show _ ≤ _; omega
    have Hb3 := Lib.hid hb3
    have Hw3 := Lib.hid hw3
    clear c0 c1 c2 c3 hc2 hb2 hw2 hb3 hw3
    have c0 := cell_n hc3 0 (v := .int .i64 a) rfl
    have c1 := cell_n hc3 1 (v := .int .i64 b) rfl
    have c2 := cell_n hc3 2 (v := .int .i64 k) rfl
    have c3 := cell_n hc3 3 (v := str data) rfl
    clear hc3
    go_upto_region 4 with fail
    rw [hW3.out]
    obtain ⟨M, hM⟩ := hide W2.heap.size
    rw [hM.out] at Hw3 Hlt ⊢
    go_wp2_with fail
    refine (HW.out _ _ Hw3.out).mono ?_
    rintro e w4 ⟨rfl, hw4, hb4⟩
    have Hb4 := Lib.hid (Hb3.out.trans (hb4.1.mono Hlt.out))
    obtain ⟨v, hv, ho⟩ := hw4
    have d0 := cell_of_one hv
    have kc := writer_str ho
    clear c0 c1 c2 c3 hv ho hb4
    go_wp2_with fail
    go_ret2
    exact ⟨rfl, by rw [hB.out]; exact Hb4.out⟩

end Go.Proofs.Ytjlhlmnoomiblaa
