/-
  Entries: may one be? both ways; writing them, both ways. Entries as bytes, both ways.
-/
import Derived.Test.YtjlhlmnoomiblaaGreatZ06
import Derived.Test.YtjlhlmnoomiblaaGreatZ01
import Derived.Deep.DeepCutAuto
namespace Go.Proofs.YtjlhlmnoomiblaaGreat
open Go.RowKit Wm Mm
set_option linter.unusedVariables false

set_option maxHeartbeats 400000 in
theorem ref_in_any (n low high : Int) (w : World) :
    Calls Tryz.prog 41 #[.int .i64 n, .int .i64 low, .int .i64 high] w fun e w' => e = .returned (.bool (inB n low high)) ∧ w = w' := by
  by_cases h1 : low ≤ n
  · have t1 : decide (low ≤ n) = true := decide_eq_true h1
    have e1 : inB n low high = decide (n ≤ high) := by unfold inB; rw [t1]; rfl
    rw [e1]
    clear h1 e1
    go_enter Tryz.func41, Tryz.ntmps41
    go_wp2
    go_ret
    exact ⟨rfl, rfl⟩
  · have t1 : decide (low ≤ n) = false := decide_eq_false h1
    have e1 : inB n low high = false := by unfold inB; rw [t1]; rfl
    rw [e1]
    clear h1 e1
    go_enter Tryz.func41, Tryz.ntmps41
    go_wp2
    go_ret
    exact ⟨rfl, rfl⟩

/-- may an entry be? -/
def isEntry (index term kind : Int) (data : List UInt8) : Bool :=
  inB index 1 1099511627775 && (inB term 1 1099511627775 && (inB kind 0 2 && (decide (data.length ≤ 256) && (!(decide (kind = 0)) || data == []))))
abbrev vEnt (index term kind : Int) (data : List UInt8) : Value := .agg #[.int .i64 index, .int .i64 term, .int .i64 kind, str data]

set_option maxHeartbeats 2000000 in
theorem wire_isEntry (index term kind : Int) (data : List UInt8) (w : World) :
    Calls Tryz.prog 83 #[vEnt index term kind data] w fun e w' => e = .returned (.bool (isEntry index term kind data)) ∧ w.alloc (.cells #[.int .i64 index, .int .i64 term, .int .i64 kind, str data] 78) = w' := by
  obtain ⟨r, hr⟩ := hide (isEntry index term kind data)
  rw [hr.out]
  go_enter Tryz.func83, Tryz.ntmps83
  go_wp2_with (go_at_call 99; refine (in_any _ _ _ _).mono ?_; rintro e w' ⟨rfl, rfl⟩)
  all_goals
    go_ret
    refine ⟨congrArg (fun b => Ending.returned (.bool b)) ?_, by first | rfl | (simp_all; done)⟩
    rw [← hr.out]
    clear hr
    first
      | (simp_all [isEntry]; done)
      | (simp_all [isEntry]; omega)

set_option maxHeartbeats 2000000 in
theorem ref_isEntry (index term kind : Int) (data : List UInt8) (w : World) :
    Calls Tryz.prog 38 #[vEnt index term kind data] w fun e w' => e = .returned (.bool (isEntry index term kind data)) ∧ w.alloc (.cells #[.int .i64 index, .int .i64 term, .int .i64 kind, str data] 78) = w' := by
  obtain ⟨r, hr⟩ := hide (isEntry index term kind data)
  rw [hr.out]
  go_enter Tryz.func38, Tryz.ntmps38
  go_wp2_with (go_at_call 41; refine (ref_in_any _ _ _ _).mono ?_; rintro e w' ⟨rfl, rfl⟩)
  all_goals
    go_ret
    refine ⟨congrArg (fun b => Ending.returned (.bool b)) ?_, by first | rfl | (simp_all; done)⟩
    rw [← hr.out]
    clear hr
    first
      | (simp_all [isEntry]; done)
      | (simp_all [isEntry, inB]; done)
      | (simp_all [isEntry, inB]; omega)

def putEnt (index term kind : Nat) (data : List UInt8) : List UInt8 := putNum index ++ (putNum term ++ (putNum kind ++ putText data))

set_option maxHeartbeats 1000000 in
theorem writer_entry {w : World} {b : Nat} {xs : List UInt8} (index term kind : Nat) (data : List UInt8) (h1 : index < 9223372036854775808) (h2 : term < 9223372036854775808) (h3 : kind < 9223372036854775808)
    (hx : xs.length + data.length ≤ 140737488355000) (h : Wr w b xs) :
    Calls Tryz.prog 84 #[.pointer (some ⟨b, 0, none⟩), vEnt index term kind data] w fun e w' =>
      e = .returned (.tuple #[]) ∧ Wr w' b (xs ++ putEnt index term kind data) ∧ BK b w w' := by
  have hbw : b < w.heap.size := by obtain ⟨v, hb, _⟩ := h; exact lt_of_block hb
  have hl1 := putNum_len10 h1
  have hl2 := putNum_len10 h2
  have hl3 := putNum_len10 h3
  have hT : (78 : TypeId) ≠ 5 := by decide
  have ha : Wr (w.alloc (.cells #[.int .i64 index, .int .i64 term, .int .i64 kind, str data] 78)) b xs := by
    obtain ⟨v, hb, ho⟩ := h
    exact ⟨v, (hp_past _ _ (by omega)).trans hb, ho.alloc _⟩
  have hba : BK b w (w.alloc (.cells #[.int .i64 index, .int .i64 term, .int .i64 kind, str data] 78)) := BK.alloc _ (by omega)
  have hc : (w.alloc (.cells #[.int .i64 index, .int .i64 term, .int .i64 kind, str data] 78)).heap[w.heap.size]? = some (.cells #[.int .i64 index, .int .i64 term, .int .i64 kind, str data] 78 (0, 0)) := hp_at _ _ rfl
  obtain ⟨p1, hp1⟩ := hide (xs ++ putNum index)
  obtain ⟨p2, hp2⟩ := hide (p1 ++ putNum term)
  obtain ⟨p3, hp3⟩ := hide (p2 ++ putNum kind)
  obtain ⟨p4, hp4⟩ := hide (p3 ++ putText data)
  have hq1 : p1.length ≤ xs.length + 9 := by rw [← hp1.out, List.length_append]; omega
  have hq2 : p2.length ≤ xs.length + 18 := by rw [← hp2.out, List.length_append]; omega
  have hq3 : p3.length ≤ xs.length + 27 := by rw [← hp3.out, List.length_append]; omega
  have e4 : xs ++ putEnt index term kind data = p4 := by rw [← hp4.out, ← hp3.out, ← hp2.out, ← hp1.out, putEnt]; simp only [List.append_assoc]
  rw [e4]
  have HN := Lib.hid (writer_number_k index h1 (by omega) ha)
  rw [hp1.out] at HN
  have HT1 : ∀ w1, Wr w1 b p1 → Calls Tryz.prog 82 #[.pointer (some ⟨b, 0, none⟩), .int .i64 term] w1 fun e w' => e = .returned (.tuple #[]) ∧ Wr w' b p2 ∧ BK b w1 w' := fun w1 hw => by
    rw [← hp2.out]; exact writer_number_k term h2 (by omega) hw
  have HT2 : ∀ w1, Wr w1 b p2 → Calls Tryz.prog 82 #[.pointer (some ⟨b, 0, none⟩), .int .i64 kind] w1 fun e w' => e = .returned (.tuple #[]) ∧ Wr w' b p3 ∧ BK b w1 w' := fun w1 hw => by
    rw [← hp3.out]; exact writer_number_k kind h3 (by omega) hw
  have HT3 : ∀ w1, Wr w1 b p3 → Calls Tryz.prog 101 #[.pointer (some ⟨b, 0, none⟩), str data] w1 fun e w' => e = .returned (.tuple #[]) ∧ Wr w' b p4 ∧ BK b w1 w' := fun w1 hw => by
    rw [← hp4.out]; exact writer_text_k data (by omega) hw
  have HT1 := Lib.hid HT1
  have HT2 := Lib.hid HT2
  have HT3 := Lib.hid HT3
  have Hba := Lib.hid hba
  have Hc := Lib.hid hc
  have Hbn : Hid (w.heap.size ≠ b) := by show _ ≠ _; omega
  clear h ha hba hc hx h1 h2 h3 hl1 hl2 hl3 hq1 hq2 hq3 e4 hbw
  go_enter Tryz.func84, Tryz.ntmps84
  go_wp2_with fail
  refine HN.out.mono ?_
  rintro e w1 ⟨rfl, hw1, hb1⟩
  have hc1 := hb1.2 _ _ _ Hbn.out hT Hc.out
  obtain ⟨c0, c1, c2, c3⟩ := four_cells hc1
  have Hc1 := Lib.hid hc1
  have Hb1 := Lib.hid (Hba.out.trans hb1)
  have Hw1 := Lib.hid hw1
  clear hc1 hb1 hw1
  go_wp2_with fail
  refine (HT1.out _ Hw1.out).mono ?_
  clear c0 c1 c2 c3
  rintro e w2 ⟨rfl, hw1, hb1⟩
  have hc1 := hb1.2 _ _ _ Hbn.out hT Hc1.out
  obtain ⟨c0, c1, c2, c3⟩ := four_cells hc1
  have Hc2 := Lib.hid hc1
  have Hb2 := Lib.hid (Hb1.out.trans hb1)
  have Hw2 := Lib.hid hw1
  clear hc1 hb1 hw1
  go_wp2_with fail
  refine (HT2.out _ Hw2.out).mono ?_
  clear c0 c1 c2 c3
  rintro e w3 ⟨rfl, hw1, hb1⟩
  have hc1 := hb1.2 _ _ _ Hbn.out hT Hc2.out
  obtain ⟨c0, c1, c2, c3⟩ := four_cells hc1
  have Hc3 := Lib.hid hc1
  have Hb3 := Lib.hid (Hb2.out.trans hb1)
  have Hw3 := Lib.hid hw1
  clear hc1 hb1 hw1
  go_wp2_with fail
  refine (HT3.out _ Hw3.out).mono ?_
  clear c0 c1 c2 c3
  rintro e w4 ⟨rfl, hw1, hb1⟩
  have Hb4 := Lib.hid (Hb3.out.trans hb1)
  have Hw4 := Lib.hid hw1
  clear hb1 hw1
  go_wp2_with fail
  go_end0
  exact ⟨rfl, Hw4.out, Hb4.out⟩
end Go.Proofs.YtjlhlmnoomiblaaGreat

namespace Go.Proofs.YtjlhlmnoomiblaaGreat
open Go.RowKit Wm Mm
set_option linter.unusedVariables false

theorem isEntry_facts {index term kind : Int} {data : List UInt8} (h : isEntry index term kind data = true) :
    ∃ a b k : Nat, index = a ∧ term = b ∧ kind = k ∧ a < 1099511627776 ∧ b < 1099511627776 ∧ k < 3 ∧ data.length ≤ 256 := by
  simp only [isEntry, Bool.and_eq_true, decide_eq_true_eq] at h
  obtain ⟨h1, h2, h3, h4, _⟩ := h
  have g1 := inB_of h1
  have g2 := inB_of h2
  have g3 := inB_of h3
  exact ⟨index.toNat, term.toNat, kind.toNat, by omega, by omega, by omega, by omega, by omega, by omega, h4⟩
def putEntB (index term kind : Int) (data : List UInt8) : List UInt8 := if isEntry index term kind data = true then putEnt index.toNat term.toNat kind.toNat data else []
def putEntE (index term kind : Int) (data : List UInt8) : Int := if isEntry index term kind data = true then 0 else 6
theorem putEnt_len (a b k : Nat) (data : List UInt8) (h1 : a < 1099511627776) (h2 : b < 1099511627776) (h3 : k < 3) (h4 : data.length ≤ 256) : (putEnt a b k data).length ≤ 292 := by
  have g1 := putNum_len10 (n := a) (by omega)
  have g2 := putNum_len10 (n := b) (by omega)
  have g3 := putNum_len10 (n := k) (by omega)
  have g4 := putText_len data (by omega)
  simp [putEnt]; omega

set_option maxHeartbeats 2000000 in
theorem wire_putEntry (index term kind : Int) (data : List UInt8) (w : World) :
    Calls Tryz.prog 47 #[vEnt index term kind data] w fun e w' =>
      e = .returned (.tuple #[str (putEntB index term kind data), .int .i64 (putEntE index term kind data)]) ∧ Below w.heap.size w w' := by
  have hwv : ∀ w1, Calls Tryz.prog 83 #[vEnt index term kind data] w1 fun e w' => e = .returned (.bool (isEntry index term kind data)) ∧ w1.alloc (.cells #[.int .i64 index, .int .i64 term, .int .i64 kind, str data] 78) = w' := fun w1 => wire_isEntry index term kind data w1
  unfold putEntB putEntE
  cases hok : isEntry index term kind data with
  | false =>
    rw [hok] at hwv
    have HV := Lib.hid hwv
    clear hwv hok
    go_enter Tryz.func47, Tryz.ntmps47
    go_wp2_with fail
    refine (HV.out _).mono ?_
    rintro e w1 ⟨rfl, hw1⟩
    have hb : Below w.heap.size w w1 := by rw [← hw1]; exact ((Below.refl _ _).alloc (Nat.le_refl _) _).alloc (by simp) _
    have Hb := Lib.hid hb
    clear hb hw1
    go_wp2_with fail
    go_ret2
    exact ⟨rfl, Hb.out⟩
  | true =>
    rw [hok] at hwv
    have HV := Lib.hid hwv
    obtain ⟨a, b, k, rfl, rfl, rfl, h1, h2, h3, h4⟩ := isEntry_facts hok
    clear hwv hok
    rw [if_pos rfl, if_pos rfl]
    simp only [Int.toNat_natCast]
    obtain ⟨p, hp⟩ := hide (putEnt a b k data)
    have HW : ∀ bb w1, Wr w1 bb [] → Calls Tryz.prog 84 #[.pointer (some ⟨bb, 0, none⟩), vEnt a b k data] w1 fun e w' => e = .returned (.tuple #[]) ∧ Wr w' bb p ∧ BK bb w1 w' := fun bb w1 hw => by
      have := writer_entry a b k data (by omega) (by omega) (by omega) (by simp; omega) hw
      rw [List.nil_append, hp.out] at this
      exact this
    have HW := Lib.hid HW
    rw [hp.out]
    clear h1 h2 h3 h4
    have hc0 : (w.alloc (.cells #[.int .i64 a, .int .i64 b, .int .i64 k, str data] 78)).heap[w.heap.size]? = some (.cells #[.int .i64 a, .int .i64 b, .int .i64 k, str data] 78 (0, 0)) := hp_at _ _ rfl
    obtain ⟨W1, hW1⟩ := hide (w.alloc (.cells #[.int .i64 a, .int .i64 b, .int .i64 k, str data] 78))
    have hb1 : Below w.heap.size w W1 := by rw [← hW1.out]; exact (Below.refl _ _).alloc (Nat.le_refl _) _
    rw [hW1.out] at hc0
    obtain ⟨B, hB⟩ := hide w.heap.size
    rw [hB.out] at hc0 hb1
    have c0 := cell_n hc0 0 (v := .int .i64 a) rfl
    have c1 := cell_n hc0 1 (v := .int .i64 b) rfl
    have c2 := cell_n hc0 2 (v := .int .i64 k) rfl
    have c3 := cell_n hc0 3 (v := str data) rfl
    have Hc0 := Lib.hid hc0
    have Hb1 := Lib.hid hb1
    clear hc0 hb1
    go_enter Tryz.func47, Tryz.ntmps47
    go_upto_region 1 with fail
    rw [hW1.out, hB.out]
    go_wp2_with fail
    refine (HV.out _).mono ?_
    rintro e W2 ⟨rfl, hw2⟩
    have hc2 : W2.heap[B]? = some (.cells #[.int .i64 a, .int .i64 b, .int .i64 k, str data] 78 (0, 0)) := by rw [← hw2]; exact (hp_past _ _ (by have := lt_of_block Hc0.out; omega)).trans Hc0.out
    have hb2 : Below B w W2 := by rw [← hw2]; exact Hb1.out.alloc (by have := lt_of_block Hc0.out; omega) _
    obtain ⟨W3, hW3⟩ := hide (W2.alloc (.cells #[.slice none 0 0] 125))
    have hc3 : W3.heap[B]? = some (.cells #[.int .i64 a, .int .i64 b, .int .i64 k, str data] 78 (0, 0)) := by rw [← hW3.out]; exact (hp_past _ _ (by have := lt_of_block hc2; omega)).trans hc2
    have hb3 : Below B w W3 := by rw [← hW3.out]; exact hb2.alloc (by have := lt_of_block hc2; omega) _
    have hw3 : Wr W3 W2.heap.size [] := by rw [← hW3.out]; exact ⟨_, hp_at _ _ rfl, World.ownsRow_nil _ _ _ _⟩
    have Hlt : Hid (B ≤ W2.heap.size) := by have := lt_of_block hc2; show _ ≤ _; omega
    have Hb3 := Lib.hid hb3
    have Hw3 := Lib.hid hw3
    clear c0 c1 c2 c3 hc2 hb2 hw2 hb3 hw3
    have c0 := cell_n hc3 0 (v := .int .i64 a) rfl
    have c1 := cell_n hc3 1 (v := .int .i64 b) rfl
    have c2 := cell_n hc3 2 (v := .int .i64 k) rfl
    have c3 := cell_n hc3 3 (v := str data) rfl
    clear hc3
    go_upto_region 4 with fail
    rw [hW3.out]
    obtain ⟨M, hM⟩ := hide W2.heap.size
    rw [hM.out] at Hw3 Hlt ⊢
    go_wp2_with fail
    refine (HW.out _ _ Hw3.out).mono ?_
    rintro e w4 ⟨rfl, hw4, hb4⟩
    have Hb4 := Lib.hid (Hb3.out.trans (hb4.1.mono Hlt.out))
    obtain ⟨v, hv, ho⟩ := hw4
    have d0 := cell_of_one hv
    have kc := writer_str ho
    clear c0 c1 c2 c3 hv ho hb4
    go_wp2_with fail
    go_ret2
    exact ⟨rfl, by rw [hB.out]; exact Hb4.out⟩

set_option maxHeartbeats 2000000 in
theorem ref_entry (a b k : Nat) (data : List UInt8) (w : World) (h1 : a < 1099511627776) (h2 : b < 1099511627776) (h3 : k < 3) (h4 : data.length ≤ 256) :
    Calls Tryz.prog 75 #[vEnt a b k data] w fun e w' => e = .returned (str (putEnt a b k data)) ∧ Below w.heap.size w w' := by
  have K1 := Lib.hid (fun w' => ref_number_any (n := a) (by omega) w')
  have K2 := Lib.hid (fun w' => ref_number_any (n := b) (by omega) w')
  have K3 := Lib.hid (fun w' => ref_number_any (n := k) (by omega) w')
  have K4 := Lib.hid (fun w' => ref_text data w' (by omega))
  have g1 := putNum_len10 (n := a) (by omega)
  have g2 := putNum_len10 (n := b) (by omega)
  have g3 := putNum_len10 (n := k) (by omega)
  have g4 := putText_len data (by omega)
  have etot : putEnt a b k data = putNum a ++ putNum b ++ putNum k ++ putText data := by simp [putEnt]
  rw [etot]
  obtain ⟨p1, hp1⟩ := hide (putNum a)
  obtain ⟨p2, hp2⟩ := hide (putNum b)
  obtain ⟨p3, hp3⟩ := hide (putNum k)
  obtain ⟨p4, hp4⟩ := hide (putText data)
  rw [hp1.out] at K1 g1
  rw [hp2.out] at K2 g2
  rw [hp3.out] at K3 g3
  rw [hp4.out] at K4 g4
  rw [hp1.out, hp2.out, hp3.out, hp4.out]
  have hs1 : p1.length + p2.length ≤ 9223372036854775807 := by omega
  have hs2 : p1.length + p2.length + p3.length ≤ 9223372036854775807 := by omega
  have hs3 : p1.length + p2.length + p3.length + p4.length ≤ 9223372036854775807 := by omega
  obtain ⟨W1, hW1⟩ := hide (w.alloc (.cells #[.int .i64 a, .int .i64 b, .int .i64 k, str data] 78))
  have hc0 : W1.heap[w.heap.size]? = some (.cells #[.int .i64 a, .int .i64 b, .int .i64 k, str data] 78 (0, 0)) := by rw [← hW1.out]; exact hp_at _ _ rfl
  have hb1 : Below w.heap.size w W1 := by rw [← hW1.out]; exact (Below.refl _ _).alloc (Nat.le_refl _) _
  have Hx : Hid (∀ w', Below W1.heap.size W1 w' → w'.heap[w.heap.size]? = some (.cells #[.int .i64 a, .int .i64 b, .int .i64 k, str data] 78 (0, 0)) ∧ Below w.heap.size w w') := fun w' h => ⟨(h.block _ (lt_of_block hc0)).trans hc0, hb1.trans (h.mono hb1.size)⟩
  clear h1 h2 h3 h4 hc0 hb1 etot g1 g2 g3 g4
  obtain ⟨B, hB⟩ := hide w.heap.size
  rw [hB.out] at Hx
  have H0 := Lib.hid (Below.refl W1.heap.size W1)
  have c0 := cell_n (Hx.out _ H0.out).1 0 (v := .int .i64 a) rfl
  go_enter Tryz.func75, Tryz.ntmps75
  go_upto_region 1 with fail
  rw [hW1.out, hB.out]
  go_wp2_with fail
  refine (K1.out _).mono ?_
  rintro e w1 ⟨rfl, hb1⟩
  have H1 := Lib.hid (H0.out.trans (hb1.mono H0.out.size))
  clear c0 hb1
  have c0 := cell_n (Hx.out _ H1.out).1 1 (v := .int .i64 b) rfl
  go_wp2_with fail
  refine (K2.out _).mono ?_
  rintro e w2 ⟨rfl, hb1⟩
  have H2 := Lib.hid (H1.out.trans (hb1.mono H1.out.size))
  clear c0 hb1
  have c0 := cell_n (Hx.out _ H2.out).1 2 (v := .int .i64 k) rfl
  go_wp2_with fail
  refine (K3.out _).mono ?_
  rintro e w3 ⟨rfl, hb1⟩
  have H3 := Lib.hid (H2.out.trans (hb1.mono H2.out.size))
  clear c0 hb1
  have c0 := cell_n (Hx.out _ H3.out).1 3 (v := str data) rfl
  go_wp2_with fail
  refine (K4.out _).mono ?_
  rintro e w4 ⟨rfl, hb1⟩
  have H4 := Lib.hid (Hx.out _ (H3.out.trans (hb1.mono H3.out.size))).2
  clear c0 hb1
  go_wp2_with fail
  go_ret
  exact ⟨by simp, by rw [hB.out]; exact H4.out⟩

end Go.Proofs.YtjlhlmnoomiblaaGreat
