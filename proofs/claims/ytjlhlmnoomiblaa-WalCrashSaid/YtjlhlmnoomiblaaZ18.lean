/-
  Snapshots: may one be? both ways; writing them, both ways. Snapshots as bytes, both ways.
-/
import Derived.Test.YtjlhlmnoomiblaaZ09
import Derived.Test.YtjlhlmnoomiblaaZ17
namespace Go.Proofs.Ytjlhlmnoomiblaa
open Go.RowKit Wm Mm
set_option linter.unusedVariables false

/-- may a snapshot be? -/
def isSnap (index term : Int) (c : Conf) (data : List UInt8) : Bool := inB index 1 1099511627775 && (inB term 1 1099511627775 && (validB c && decide (data.length ≤ 8192)))
abbrev vSnap (index term : Int) (x y z : Value) (data : List UInt8) : Value := .agg #[.int .i64 index, .int .i64 term, x, y, z, str data]

set_option maxHeartbeats 2000000 in
theorem wire_isSnapshot (index term : Int) (x y z : Value) (c : Conf) (data : List UInt8) (w : World) (hc : Config3 w x y z c) :
    Calls Try.prog 38 #[vSnap index term x y z data] w fun e w' => e = .returned (.bool (isSnap index term c data)) ∧ Below w.heap.size w w' := by
  obtain ⟨ao1, cp1, rfl, _⟩ := len_of_Ints hc.v
  obtain ⟨ao2, cp2, rfl, _⟩ := len_of_Ints hc.n
  obtain ⟨ao3, cp3, rfl, _⟩ := len_of_Ints hc.l
  have HV : Hid (∀ w1, Below w.heap.size w w1 → Calls Try.prog 19 #[.agg #[.slice ao1 c.v.length cp1, .slice ao2 c.n.length cp2, .slice ao3 c.l.length cp3]] w1 fun e w' => e = .returned (.bool (validB c)) ∧ Below w1.heap.size w1 w') := fun w1 h => config_valid _ _ _ c w1 (hc.mono h)
  obtain ⟨W1, hW1⟩ := hide (w.alloc (.cells #[.int .i64 index, .int .i64 term, .slice ao1 c.v.length cp1, .slice ao2 c.n.length cp2, .slice ao3 c.l.length cp3, str data] 31))
  have hc0 : W1.heap[w.heap.size]? = some (.cells #[.int .i64 index, .int .i64 term, .slice ao1 c.v.length cp1, .slice ao2 c.n.length cp2, .slice ao3 c.l.length cp3, str data] 31 (0, 0)) := by rw [← hW1.out]; exact hp_at _ _ rfl
  have hb1 : Below w.heap.size w W1 := by rw [← hW1.out]; exact (Below.refl _ _).alloc (Nat.le_refl _) _
  have Hx : Hid (∀ w', Below W1.heap.size W1 w' → w'.heap[w.heap.size]? = some (.cells #[.int .i64 index, .int .i64 term, .slice ao1 c.v.length cp1, .slice ao2 c.n.length cp2, .slice ao3 c.l.length cp3, str data] 31 (0, 0)) ∧ Below w.heap.size w w') := fun w' h => ⟨(h.block _ (lt_of_block hc0)).trans hc0, hb1.trans (h.mono hb1.size)⟩
  have HC := Lib.hid hc
  obtain ⟨B, hB⟩ := hide w.heap.size
  have Hws : Hid (B < W1.heap.size) := by rw [← hB.out]; exact lt_of_block hc0
  have H0 := Lib.hid (Below.refl W1.heap.size W1)
  rw [hB.out] at Hx HV
  clear hc hc0 hb1
  have hdef : isSnap index term c data = (inB index 1 1099511627775 && (inB term 1 1099511627775 && (validB c && decide (data.length ≤ 8192)))) := rfl
  have K1 := Lib.hid (fun w' => in_any index 1 1099511627775 w')
  have K2 := Lib.hid (fun w' => in_any term 1 1099511627775 w')
  obtain ⟨r1, hr1⟩ := hide (inB index 1 1099511627775)
  obtain ⟨r2, hr2⟩ := hide (inB term 1 1099511627775)
  obtain ⟨r3, hr3⟩ := hide (validB c)
  rw [hr1.out] at K1 hdef
  rw [hr2.out] at K2 hdef
  rw [hr3.out] at HV hdef
  have t0 : decide ((data.length : Int) ≤ 8192) = decide (data.length ≤ 8192) := by simp only [decide_eq_decide]; omega
  obtain ⟨r4, hr4⟩ := hide (decide (data.length ≤ 8192))
  rw [hr4.out] at hdef t0
  rw [hdef]
  clear hdef
  have T0 := Lib.hid t0
  clear t0
  have c0 := cell_n (Hx.out _ H0.out).1 0 (v := .int .i64 index) rfl
  have c1 := cell_n (Hx.out _ H0.out).1 1 (v := .int .i64 term) rfl
  have c2 := cell_n (Hx.out _ H0.out).1 2 (v := .slice ao1 c.v.length cp1) rfl
  have c3 := cell_n (Hx.out _ H0.out).1 3 (v := .slice ao2 c.n.length cp2) rfl
  have c4 := cell_n (Hx.out _ H0.out).1 4 (v := .slice ao3 c.l.length cp3) rfl
  have c5 := cell_n (Hx.out _ H0.out).1 5 (v := str data) rfl
  go_enter Try.func38, Try.ntmps38
  go_upto_region 1 with fail
  rw [hW1.out, hB.out]
  go_wp2_with fail
  refine (K1.out _).mono ?_
  rintro e w' ⟨rfl, rfl⟩
  cases r1 with
  | false =>
    have Hf := Lib.hid (Hx.out _ H0.out).2
    go_wp2_with fail
    go_ret
    exact ⟨rfl, by rw [hB.out]; exact Hf.out⟩
  | true =>
  go_wp2_with fail
  refine (K2.out _).mono ?_
  rintro e w' ⟨rfl, rfl⟩
  cases r2 with
  | false =>
    have Hf := Lib.hid (Hx.out _ H0.out).2
    go_wp2_with fail
    go_ret
    exact ⟨rfl, by rw [hB.out]; exact Hf.out⟩
  | true =>
  go_wp2_with fail
  refine (HV.out _ (Hx.out _ H0.out).2).mono ?_
  rintro e w2 ⟨rfl, hb2⟩
  have H2 := Lib.hid (H0.out.trans (hb2.mono H0.out.size))
  clear hb2 c0 c1 c2 c3 c4 c5
  have c0 := cell_n (Hx.out _ H2.out).1 0 (v := .int .i64 index) rfl
  have c1 := cell_n (Hx.out _ H2.out).1 1 (v := .int .i64 term) rfl
  have c2 := cell_n (Hx.out _ H2.out).1 2 (v := .slice ao1 c.v.length cp1) rfl
  have c3 := cell_n (Hx.out _ H2.out).1 3 (v := .slice ao2 c.n.length cp2) rfl
  have c4 := cell_n (Hx.out _ H2.out).1 4 (v := .slice ao3 c.l.length cp3) rfl
  have c5 := cell_n (Hx.out _ H2.out).1 5 (v := str data) rfl
  have Hf := Lib.hid (Hx.out _ H2.out).2
  cases r3 with
  | false =>
    go_wp2_with fail
    go_ret
    exact ⟨rfl, by rw [hB.out]; exact Hf.out⟩
  | true =>
  have t0 := T0.out
  cases r4
  all_goals
    go_wp2_with fail
    go_ret
    exact ⟨rfl, by rw [hB.out]; exact Hf.out⟩

end Go.Proofs.Ytjlhlmnoomiblaa

namespace Go.Proofs.Ytjlhlmnoomiblaa
open Go.RowKit Wm Mm
set_option linter.unusedVariables false

def putSnap (index term : Nat) (c : Conf) (data : List UInt8) : List UInt8 := putNum index ++ (putNum term ++ (putConf c ++ putText data))
theorem isSnap_facts {index term : Int} {c : Conf} {data : List UInt8} (h : isSnap index term c data = true) :
    ∃ a b : Nat, index = a ∧ term = b ∧ a < 1099511627776 ∧ b < 1099511627776 ∧ validB c = true ∧ data.length ≤ 8192 := by
  simp only [isSnap, Bool.and_eq_true, decide_eq_true_eq] at h
  obtain ⟨h1, h2, h3, h4⟩ := h
  have g1 := inB_of h1
  have g2 := inB_of h2
  exact ⟨index.toNat, term.toNat, by omega, by omega, by omega, by omega, h3, h4⟩
def putSnapB (index term : Int) (c : Conf) (data : List UInt8) : List UInt8 := if isSnap index term c data = true then putSnap index.toNat term.toNat c data else []
def putSnapE (index term : Int) (c : Conf) (data : List UInt8) : Int := if isSnap index term c data = true then 0 else 6
theorem putSnap_len {a b : Nat} {c : Conf} {data : List UInt8} (h1 : a < 1099511627776) (h2 : b < 1099511627776) (h3 : validB c = true) (h4 : data.length ≤ 8192) : (putSnap a b c data).length ≤ 8600 := by
  have g1 := putNum_len10 (n := a) (by omega)
  have g2 := putNum_len10 (n := b) (by omega)
  have g3 := putConf_len h3
  have g4 := putText_len data (by omega)
  simp [putSnap]; omega

set_option maxHeartbeats 1000000 in
theorem writer_snapshot {w : World} {bb : Nat} {xs : List UInt8} (a b : Nat) (x y z : Value) (c : Conf) (data : List UInt8) (h1 : a < 1099511627776) (h2 : b < 1099511627776) (hval : validB c = true) (h4 : data.length ≤ 8192) (hx : xs.length ≤ 140737488330000) (hv : ∀ w', Below bb w w' → Config3 w' x y z c) (h : Wr w bb xs) :
    Calls Try.prog 39 #[.pointer (some ⟨bb, 0, none⟩), vSnap a b x y z data] w fun e w' =>
      e = .returned (.tuple #[]) ∧ Wr w' bb (xs ++ putSnap a b c data) ∧ BK bb w w' := by
  have hbw : bb < w.heap.size := by obtain ⟨v, hb, _⟩ := h; exact lt_of_block hb
  have hl1 := putNum_len10 (n := a) (by omega)
  have hl2 := putNum_len10 (n := b) (by omega)
  have hl3 := putConf_len hval
  have hT : (31 : TypeId) ≠ 5 := by decide
  have hc : Config3 w x y z c := hv w (Below.refl _ _)
  obtain ⟨ao1, cp1, rfl, _⟩ := len_of_Ints hc.v
  obtain ⟨ao2, cp2, rfl, _⟩ := len_of_Ints hc.n
  obtain ⟨ao3, cp3, rfl, _⟩ := len_of_Ints hc.l
  obtain ⟨W, hW⟩ := hide (w.alloc (.cells #[.int .i64 (a : Nat), .int .i64 (b : Nat), .slice ao1 c.v.length cp1, .slice ao2 c.n.length cp2, .slice ao3 c.l.length cp3, str data] 31))
  have ha : Wr W bb xs := by
    rw [← hW.out]
    obtain ⟨v, hb, ho⟩ := h
    exact ⟨v, (hp_past _ _ (by omega)).trans hb, ho.alloc _⟩
  have hba : BK bb w W := by rw [← hW.out]; exact BK.alloc _ (by omega)
  have hc0 : W.heap[w.heap.size]? = some (.cells #[.int .i64 (a : Nat), .int .i64 (b : Nat), .slice ao1 c.v.length cp1, .slice ao2 c.n.length cp2, .slice ao3 c.l.length cp3, str data] 31 (0, 0)) := by rw [← hW.out]; exact hp_at _ _ rfl
  obtain ⟨p1, hp1⟩ := hide (xs ++ putNum a)
  obtain ⟨p2, hp2⟩ := hide (p1 ++ putNum b)
  obtain ⟨p3, hp3⟩ := hide (p2 ++ putConf c)
  obtain ⟨p4, hp4⟩ := hide (p3 ++ putText data)
  have hq1 : p1.length ≤ xs.length + 9 := by rw [← hp1.out, List.length_append]; omega
  have hq2 : p2.length ≤ xs.length + 18 := by rw [← hp2.out, List.length_append]; omega
  have hq3 : p3.length ≤ xs.length + 300 := by rw [← hp3.out, List.length_append]; omega
  have e4 : xs ++ putSnap a b c data = p4 := by rw [← hp4.out, ← hp3.out, ← hp2.out, ← hp1.out, putSnap]; simp only [List.append_assoc]
  rw [e4]
  have HT0 : Hid (∀ w1, BK bb w w1 → Wr w1 bb xs → Calls Try.prog 41 #[.pointer (some ⟨bb, 0, none⟩), .int .i64 a] w1 fun e w' => e = .returned (.tuple #[]) ∧ Wr w' bb p1 ∧ BK bb w1 w') := fun w1 hk hw => by
    rw [← hp1.out]; exact writer_number_k a (by omega) (by omega) hw
  have HT1 : Hid (∀ w1, BK bb w w1 → Wr w1 bb p1 → Calls Try.prog 41 #[.pointer (some ⟨bb, 0, none⟩), .int .i64 b] w1 fun e w' => e = .returned (.tuple #[]) ∧ Wr w' bb p2 ∧ BK bb w1 w') := fun w1 hk hw => by
    rw [← hp2.out]; exact writer_number_k b (by omega) (by omega) hw
  have HT2 : Hid (∀ w1, BK bb w w1 → Wr w1 bb p2 → Calls Try.prog 54 #[.pointer (some ⟨bb, 0, none⟩), .agg #[.slice ao1 c.v.length cp1, .slice ao2 c.n.length cp2, .slice ao3 c.l.length cp3]] w1 fun e w' => e = .returned (.tuple #[]) ∧ Wr w' bb p3 ∧ BK bb w1 w') := fun w1 hk hw => by
    rw [← hp3.out]; exact writer_config _ _ _ c hval (by omega) (fun w' hb => hv w' (hk.1.trans hb)) hw
  have HT3 : Hid (∀ w1, BK bb w w1 → Wr w1 bb p3 → Calls Try.prog 55 #[.pointer (some ⟨bb, 0, none⟩), str data] w1 fun e w' => e = .returned (.tuple #[]) ∧ Wr w' bb p4 ∧ BK bb w1 w') := fun w1 hk hw => by
    rw [← hp4.out]; exact writer_text_k data (by omega) hw
  have Hb0 := Lib.hid hba
  have Hw0 := Lib.hid ha
  have Hc0 := Lib.hid hc0
  have Hbn : Hid (w.heap.size ≠ bb) := by show _ ≠ _; omega
  clear h ha hba hc0 hx hl1 hl2 hl3 hq1 hq2 hq3 e4 hbw hv h1 h2 h4 hval hc
  obtain ⟨B, hB⟩ := hide w.heap.size
  rw [hB.out] at Hc0 Hbn
  have c0 := cell_n Hc0.out 0 (v := .int .i64 (a : Nat)) rfl
  have c1 := cell_n Hc0.out 1 (v := .int .i64 (b : Nat)) rfl
  have c2 := cell_n Hc0.out 2 (v := .slice ao1 c.v.length cp1) rfl
  have c3 := cell_n Hc0.out 3 (v := .slice ao2 c.n.length cp2) rfl
  have c4 := cell_n Hc0.out 4 (v := .slice ao3 c.l.length cp3) rfl
  have c5 := cell_n Hc0.out 5 (v := str data) rfl
  go_enter Try.func39, Try.ntmps39
  go_upto_region 1 with fail
  rw [hW.out, hB.out]
  go_wp2_with fail
  refine (HT0.out _ Hb0.out Hw0.out).mono ?_
  rintro e w1 ⟨rfl, hw1, hb1⟩
  have hc1 := hb1.2 _ _ _ Hbn.out hT Hc0.out
  clear c0 c1 c2 c3 c4 c5
  have c0 := cell_n hc1 0 (v := .int .i64 (a : Nat)) rfl
  have c1 := cell_n hc1 1 (v := .int .i64 (b : Nat)) rfl
  have c2 := cell_n hc1 2 (v := .slice ao1 c.v.length cp1) rfl
  have c3 := cell_n hc1 3 (v := .slice ao2 c.n.length cp2) rfl
  have c4 := cell_n hc1 4 (v := .slice ao3 c.l.length cp3) rfl
  have c5 := cell_n hc1 5 (v := str data) rfl
  have Hc1 := Lib.hid hc1
  have Hb1 := Lib.hid (Hb0.out.trans hb1)
  have Hw1 := Lib.hid hw1
  clear hc1 hb1 hw1
  go_wp2_with fail
  refine (HT1.out _ Hb1.out Hw1.out).mono ?_
  rintro e w2 ⟨rfl, hw1, hb1⟩
  have hc1 := hb1.2 _ _ _ Hbn.out hT Hc1.out
  clear c0 c1 c2 c3 c4 c5
  have c0 := cell_n hc1 0 (v := .int .i64 (a : Nat)) rfl
  have c1 := cell_n hc1 1 (v := .int .i64 (b : Nat)) rfl
  have c2 := cell_n hc1 2 (v := .slice ao1 c.v.length cp1) rfl
  have c3 := cell_n hc1 3 (v := .slice ao2 c.n.length cp2) rfl
  have c4 := cell_n hc1 4 (v := .slice ao3 c.l.length cp3) rfl
  have c5 := cell_n hc1 5 (v := str data) rfl
  have Hc2 := Lib.hid hc1
  have Hb2 := Lib.hid (Hb1.out.trans hb1)
  have Hw2 := Lib.hid hw1
  clear hc1 hb1 hw1
  go_wp2_with fail
  refine (HT2.out _ Hb2.out Hw2.out).mono ?_
  rintro e w3 ⟨rfl, hw1, hb1⟩
  have hc1 := hb1.2 _ _ _ Hbn.out hT Hc2.out
  clear c0 c1 c2 c3 c4 c5
  have c0 := cell_n hc1 0 (v := .int .i64 (a : Nat)) rfl
  have c1 := cell_n hc1 1 (v := .int .i64 (b : Nat)) rfl
  have c2 := cell_n hc1 2 (v := .slice ao1 c.v.length cp1) rfl
  have c3 := cell_n hc1 3 (v := .slice ao2 c.n.length cp2) rfl
  have c4 := cell_n hc1 4 (v := .slice ao3 c.l.length cp3) rfl
  have c5 := cell_n hc1 5 (v := str data) rfl
  have Hc3 := Lib.hid hc1
  have Hb3 := Lib.hid (Hb2.out.trans hb1)
  have Hw3 := Lib.hid hw1
  clear hc1 hb1 hw1
  go_wp2_with fail
  refine (HT3.out _ Hb3.out Hw3.out).mono ?_
  rintro e w4 ⟨rfl, hw1, hb1⟩
  have hc1 := hb1.2 _ _ _ Hbn.out hT Hc3.out
  clear c0 c1 c2 c3 c4 c5
  have c0 := cell_n hc1 0 (v := .int .i64 (a : Nat)) rfl
  have c1 := cell_n hc1 1 (v := .int .i64 (b : Nat)) rfl
  have c2 := cell_n hc1 2 (v := .slice ao1 c.v.length cp1) rfl
  have c3 := cell_n hc1 3 (v := .slice ao2 c.n.length cp2) rfl
  have c4 := cell_n hc1 4 (v := .slice ao3 c.l.length cp3) rfl
  have c5 := cell_n hc1 5 (v := str data) rfl
  have Hc4 := Lib.hid hc1
  have Hb4 := Lib.hid (Hb3.out.trans hb1)
  have Hw4 := Lib.hid hw1
  clear hc1 hb1 hw1
  go_wp2_with fail
  go_end0
  exact ⟨rfl, Hw4.out, Hb4.out⟩

set_option maxHeartbeats 2000000 in
theorem wire_putSnapshot (index term : Int) (x y z : Value) (c : Conf) (data : List UInt8) (w : World) (hc : Config3 w x y z c) :
    Calls Try.prog 21 #[vSnap index term x y z data] w fun e w' =>
      e = .returned (.tuple #[str (putSnapB index term c data), .int .i64 (putSnapE index term c data)]) ∧ Below w.heap.size w w' := by
  obtain ⟨ao1, cp1, rfl, _⟩ := len_of_Ints hc.v
  obtain ⟨ao2, cp2, rfl, _⟩ := len_of_Ints hc.n
  obtain ⟨ao3, cp3, rfl, _⟩ := len_of_Ints hc.l
  have hwv : Hid (∀ w1, Below w.heap.size w w1 → Calls Try.prog 38 #[vSnap index term (.slice ao1 c.v.length cp1) (.slice ao2 c.n.length cp2) (.slice ao3 c.l.length cp3) data] w1 fun e w' => e = .returned (.bool (isSnap index term c data)) ∧ Below w1.heap.size w1 w') := fun w1 h => wire_isSnapshot index term _ _ _ c data w1 (hc.mono h)
  obtain ⟨W1, hW1⟩ := hide (w.alloc (.cells #[.int .i64 index, .int .i64 term, .slice ao1 c.v.length cp1, .slice ao2 c.n.length cp2, .slice ao3 c.l.length cp3, str data] 31))
  have hc0 : W1.heap[w.heap.size]? = some (.cells #[.int .i64 index, .int .i64 term, .slice ao1 c.v.length cp1, .slice ao2 c.n.length cp2, .slice ao3 c.l.length cp3, str data] 31 (0, 0)) := by rw [← hW1.out]; exact hp_at _ _ rfl
  have hb1 : Below w.heap.size w W1 := by rw [← hW1.out]; exact (Below.refl _ _).alloc (Nat.le_refl _) _
  have Hx : Hid (∀ w', Below W1.heap.size W1 w' → w'.heap[w.heap.size]? = some (.cells #[.int .i64 index, .int .i64 term, .slice ao1 c.v.length cp1, .slice ao2 c.n.length cp2, .slice ao3 c.l.length cp3, str data] 31 (0, 0)) ∧ Below w.heap.size w w') := fun w' h => ⟨(h.block _ (lt_of_block hc0)).trans hc0, hb1.trans (h.mono hb1.size)⟩
  have HC := Lib.hid hc
  obtain ⟨B, hB⟩ := hide w.heap.size
  have Hws : Hid (B < W1.heap.size) := by rw [← hB.out]; exact lt_of_block hc0
  have H0 := Lib.hid (Below.refl W1.heap.size W1)
  rw [hB.out] at Hx hwv
  clear hc hc0 hb1
  have c0 := cell_n (Hx.out _ H0.out).1 0 (v := .int .i64 index) rfl
  have c1 := cell_n (Hx.out _ H0.out).1 1 (v := .int .i64 term) rfl
  have c2 := cell_n (Hx.out _ H0.out).1 2 (v := .slice ao1 c.v.length cp1) rfl
  have c3 := cell_n (Hx.out _ H0.out).1 3 (v := .slice ao2 c.n.length cp2) rfl
  have c4 := cell_n (Hx.out _ H0.out).1 4 (v := .slice ao3 c.l.length cp3) rfl
  have c5 := cell_n (Hx.out _ H0.out).1 5 (v := str data) rfl
  obtain ⟨rb, hrb⟩ := hide (putSnapB index term c data)
  obtain ⟨re, hre⟩ := hide (putSnapE index term c data)
  rw [hrb.out, hre.out]
  go_enter Try.func21, Try.ntmps21
  go_upto_region 1 with fail
  rw [hW1.out, hB.out]
  go_wp2_with fail
  refine (hwv.out _ (Hx.out _ H0.out).2).mono ?_
  rintro e w2 ⟨rfl, hb2⟩
  have H2 := Lib.hid (H0.out.trans (hb2.mono H0.out.size))
  clear c0 c1 c2 c3 c4 c5 hb2
  cases hok : isSnap index term c data with
  | false =>
    obtain rfl : [] = rb := by rw [← hrb.out, putSnapB, if_neg (by simp [hok])]
    obtain rfl : 6 = re := by rw [← hre.out, putSnapE, if_neg (by simp [hok])]
    clear hok
    have Hf := Lib.hid (Hx.out _ H2.out).2
    go_wp2_with fail
    go_ret2
    exact ⟨rfl, by rw [hB.out]; exact Hf.out⟩
  | true =>
    obtain ⟨a, b, rfl, rfl, h1, h2, h3, h4⟩ := isSnap_facts hok
    obtain rfl : putSnap a b c data = rb := by rw [← hrb.out, putSnapB, if_pos hok]; simp
    obtain rfl : 0 = re := by rw [← hre.out, putSnapE, if_pos hok]
    have HW : ∀ w1, Below W1.heap.size W1 w1 → ∀ bb, W1.heap.size ≤ bb → Wr w1 bb [] → Calls Try.prog 39 #[.pointer (some ⟨bb, 0, none⟩), vSnap a b (.slice ao1 c.v.length cp1) (.slice ao2 c.n.length cp2) (.slice ao3 c.l.length cp3) data] w1 fun e w' => e = .returned (.tuple #[]) ∧ Wr w' bb (putSnap a b c data) ∧ BK bb w1 w' := fun w1 g1 bb hbb hw => by
      have := writer_snapshot a b _ _ _ c data h1 h2 h3 h4 (by simp) (fun w' h' => HC.out.mono (by rw [hB.out]; exact (Hx.out w' (g1.trans (h'.mono hbb))).2)) hw
      rw [List.nil_append] at this
      exact this
    have HW := Lib.hid HW
    obtain ⟨p, hp⟩ := hide (putSnap a b c data)
    rw [hp.out] at HW
    clear hok h1 h2 h3 h4
    obtain ⟨W3, hW3⟩ := hide (w2.alloc (.cells #[.slice none 0 0] 99))
    have hb3 : Below W1.heap.size W1 W3 := by rw [← hW3.out]; exact H2.out.alloc H2.out.size _
    have hw3 : Wr W3 w2.heap.size [] := by rw [← hW3.out]; exact ⟨_, hp_at _ _ rfl, World.ownsRow_nil _ _ _ _⟩
    have Hlt : Hid (W1.heap.size ≤ w2.heap.size) := H2.out.size
    have Hb3 := Lib.hid hb3
    have Hw3 := Lib.hid hw3
    clear hb3 hw3
    have c0 := cell_n (Hx.out _ Hb3.out).1 0 (v := .int .i64 (a : Nat)) rfl
    have c1 := cell_n (Hx.out _ Hb3.out).1 1 (v := .int .i64 (b : Nat)) rfl
    have c2 := cell_n (Hx.out _ Hb3.out).1 2 (v := .slice ao1 c.v.length cp1) rfl
    have c3 := cell_n (Hx.out _ Hb3.out).1 3 (v := .slice ao2 c.n.length cp2) rfl
    have c4 := cell_n (Hx.out _ Hb3.out).1 4 (v := .slice ao3 c.l.length cp3) rfl
    have c5 := cell_n (Hx.out _ Hb3.out).1 5 (v := str data) rfl
    go_upto_region 4 with fail
    rw [hW3.out]
    obtain ⟨M, hM⟩ := hide w2.heap.size
    rw [hM.out] at Hw3 Hlt ⊢
    go_wp2_with fail
    refine (HW.out _ Hb3.out _ Hlt.out Hw3.out).mono ?_
    rintro e w4 ⟨rfl, hw4, hb4⟩
    have Hb4 := Lib.hid (Hx.out _ (Hb3.out.trans (hb4.1.mono Hlt.out))).2
    obtain ⟨v, hv, ho⟩ := hw4
    have d0 := cell_of_one hv
    have kc := writer_str ho
    clear c0 c1 c2 c3 c4 c5 hv ho hb4
    go_wp2_with fail
    go_ret2
    exact ⟨by rw [hp.out]; rfl, by rw [hB.out]; exact Hb4.out⟩

end Go.Proofs.Ytjlhlmnoomiblaa
