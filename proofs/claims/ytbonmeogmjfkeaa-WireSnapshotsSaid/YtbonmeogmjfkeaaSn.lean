/-
  Snapshots: may one be? both ways; writing them, both ways.
-/
import Derived.Test.YtbonmeogmjfkeaaEq
import Derived.Test.YtbonmeogmjfkeaaEc
namespace Go.Proofs.Ytbonmeogmjfkeaa
open Go.RowKit Wm Mm
set_option linter.unusedVariables false

/-- may a snapshot be? -/
def isSnap (index term : Int) (c : Conf) (data : List UInt8) : Bool := inB index 1 1099511627775 && (inB term 1 1099511627775 && (validB c && decide (data.length ≤ 8192)))
abbrev vSnap (index term : Int) (x y z : Value) (data : List UInt8) : Value := .agg #[.int .i64 index, .int .i64 term, x, y, z, str data]

set_option maxHeartbeats 2000000 in
theorem wire_isSnapshot (index term : Int) (x y z : Value) (c : Conf) (data : List UInt8) (w : World) (hc : Config3 w x y z c) :
    Calls Try.prog 121 #[vSnap index term x y z data] w fun e w' => e = .returned (.bool (isSnap index term c data)) ∧ Below w.heap.size w w' := by
  obtain ⟨ao1, cp1, rfl, _⟩ := len_of_Ints hc.v
  obtain ⟨ao2, cp2, rfl, _⟩ := len_of_Ints hc.n
  obtain ⟨ao3, cp3, rfl, _⟩ := len_of_Ints hc.l
  have HV : Hid (∀ w1, Below w.heap.size w w1 → Calls Try.prog 109 #[.agg #[.slice ao1 c.v.length cp1, .slice ao2 c.n.length cp2, .slice ao3 c.l.length cp3]] w1 fun e w' => e = .returned (.bool (validB c)) ∧ Below w1.heap.size w1 w') := fun w1 h => config_valid _ _ _ c w1 (hc.mono h)
  obtain ⟨W1, hW1⟩ := hide (w.alloc (.cells #[.int .i64 index, .int .i64 term, .slice ao1 c.v.length cp1, .slice ao2 c.n.length cp2, .slice ao3 c.l.length cp3, str data] 105))
  have hc0 : W1.heap[w.heap.size]? = some (.cells #[.int .i64 index, .int .i64 term, .slice ao1 c.v.length cp1, .slice ao2 c.n.length cp2, .slice ao3 c.l.length cp3, str data] 105 (0, 0)) := by rw [← hW1.out]; exact hp_at _ _ rfl
  have hb1 : Below w.heap.size w W1 := by rw [← hW1.out]; exact (Below.refl _ _).alloc (Nat.le_refl _) _
  have Hx : Hid (∀ w', Below W1.heap.size W1 w' → w'.heap[w.heap.size]? = some (.cells #[.int .i64 index, .int .i64 term, .slice ao1 c.v.length cp1, .slice ao2 c.n.length cp2, .slice ao3 c.l.length cp3, str data] 105 (0, 0)) ∧ Below w.heap.size w w') := fun w' h => ⟨(h.block _ (lt_of_block hc0)).trans hc0, hb1.trans (h.mono hb1.size)⟩
  have HC := Lib.hid hc
  obtain ⟨B, hB⟩ := hide w.heap.size
  have Hws : Hid (B < W1.heap.size) := by rw [← hB.out]; exact lt_of_block hc0
  have H0 := Lib.hid (Below.refl W1.heap.size W1)
  rw [hB.out] at Hx HV
  clear hc hc0 hb1
  have hdef : isSnap index term c data = (inB index 1 1099511627775 && (inB term 1 1099511627775 && (validB c && decide (data.length ≤ 8192)))) := rfl
  have K1 := Lib.hid (fun w' => in_any index 1 1099511627775 w')
  have K2 := Lib.hid (fun w' => in_any term 1 1099511627775 w')
  obtain ⟨r1, hr1⟩ := hide (inB index 1 1099511627775)
  obtain ⟨r2, hr2⟩ := hide (inB term 1 1099511627775)
  obtain ⟨r3, hr3⟩ := hide (validB c)
  rw [hr1.out] at K1 hdef
  rw [hr2.out] at K2 hdef
  rw [hr3.out] at HV hdef
  have t0 : decide ((data.length : Int) ≤ 8192) = decide (data.length ≤ 8192) := by simp only [decide_eq_decide]; omega
  obtain ⟨r4, hr4⟩ := hide (decide (data.length ≤ 8192))
  rw [hr4.out] at hdef t0
  rw [hdef]
  clear hdef
  have T0 := Lib.hid t0
  clear t0
  have c0 := cell_n (Hx.out _ H0.out).1 0 (v := .int .i64 index) rfl
  have c1 := cell_n (Hx.out _ H0.out).1 1 (v := .int .i64 term) rfl
  have c2 := cell_n (Hx.out _ H0.out).1 2 (v := .slice ao1 c.v.length cp1) rfl
  have c3 := cell_n (Hx.out _ H0.out).1 3 (v := .slice ao2 c.n.length cp2) rfl
  have c4 := cell_n (Hx.out _ H0.out).1 4 (v := .slice ao3 c.l.length cp3) rfl
  have c5 := cell_n (Hx.out _ H0.out).1 5 (v := str data) rfl
  go_enter Try.func121, Try.ntmps121
  go_upto_region 1 with fail
  rw [hW1.out, hB.out]
  go_wp2_with fail
  refine (K1.out _).mono ?_
  rintro e w' ⟨rfl, rfl⟩
  cases r1 with
  | false =>
    have Hf := Lib.hid (Hx.out _ H0.out).2
    go_wp2_with fail
    go_ret
    exact ⟨rfl, by rw [hB.out]; exact Hf.out⟩
  | true =>
  go_wp2_with fail
  refine (K2.out _).mono ?_
  rintro e w' ⟨rfl, rfl⟩
  cases r2 with
  | false =>
    have Hf := Lib.hid (Hx.out _ H0.out).2
    go_wp2_with fail
    go_ret
    exact ⟨rfl, by rw [hB.out]; exact Hf.out⟩
  | true =>
  go_wp2_with fail
  refine (HV.out _ (Hx.out _ H0.out).2).mono ?_
  rintro e w2 ⟨rfl, hb2⟩
  have H2 := Lib.hid (H0.out.trans (hb2.mono H0.out.size))
  clear hb2 c0 c1 c2 c3 c4 c5
  have c0 := cell_n (Hx.out _ H2.out).1 0 (v := .int .i64 index) rfl
  have c1 := cell_n (Hx.out _ H2.out).1 1 (v := .int .i64 term) rfl
  have c2 := cell_n (Hx.out _ H2.out).1 2 (v := .slice ao1 c.v.length cp1) rfl
  have c3 := cell_n (Hx.out _ H2.out).1 3 (v := .slice ao2 c.n.length cp2) rfl
  have c4 := cell_n (Hx.out _ H2.out).1 4 (v := .slice ao3 c.l.length cp3) rfl
  have c5 := cell_n (Hx.out _ H2.out).1 5 (v := str data) rfl
  have Hf := Lib.hid (Hx.out _ H2.out).2
  cases r3 with
  | false =>
    go_wp2_with fail
    go_ret
    exact ⟨rfl, by rw [hB.out]; exact Hf.out⟩
  | true =>
  have t0 := T0.out
  cases r4
  all_goals
    go_wp2_with fail
    go_ret
    exact ⟨rfl, by rw [hB.out]; exact Hf.out⟩

set_option maxHeartbeats 2000000 in
theorem ref_isSnapshot (index term : Int) (x y z : Value) (c : Conf) (data : List UInt8) (w : World) (hc : Config3 w x y z c) :
    Calls Try.prog 118 #[vSnap index term x y z data] w fun e w' => e = .returned (.bool (isSnap index term c data)) ∧ Below w.heap.size w w' := by
  obtain ⟨ao1, cp1, rfl, _⟩ := len_of_Ints hc.v
  obtain ⟨ao2, cp2, rfl, _⟩ := len_of_Ints hc.n
  obtain ⟨ao3, cp3, rfl, _⟩ := len_of_Ints hc.l
  have HV : Hid (∀ w1, Below w.heap.size w w1 → Calls Try.prog 112 #[.agg #[.slice ao1 c.v.length cp1, .slice ao2 c.n.length cp2, .slice ao3 c.l.length cp3]] w1 fun e w' => e = .returned (.bool (validB c)) ∧ Below w1.heap.size w1 w') := fun w1 h => ref_isConfig _ _ _ c w1 (hc.mono h)
  obtain ⟨W1, hW1⟩ := hide (w.alloc (.cells #[.int .i64 index, .int .i64 term, .slice ao1 c.v.length cp1, .slice ao2 c.n.length cp2, .slice ao3 c.l.length cp3, str data] 105))
  have hc0 : W1.heap[w.heap.size]? = some (.cells #[.int .i64 index, .int .i64 term, .slice ao1 c.v.length cp1, .slice ao2 c.n.length cp2, .slice ao3 c.l.length cp3, str data] 105 (0, 0)) := by rw [← hW1.out]; exact hp_at _ _ rfl
  have hb1 : Below w.heap.size w W1 := by rw [← hW1.out]; exact (Below.refl _ _).alloc (Nat.le_refl _) _
  have Hx : Hid (∀ w', Below W1.heap.size W1 w' → w'.heap[w.heap.size]? = some (.cells #[.int .i64 index, .int .i64 term, .slice ao1 c.v.length cp1, .slice ao2 c.n.length cp2, .slice ao3 c.l.length cp3, str data] 105 (0, 0)) ∧ Below w.heap.size w w') := fun w' h => ⟨(h.block _ (lt_of_block hc0)).trans hc0, hb1.trans (h.mono hb1.size)⟩
  have HC := Lib.hid hc
  obtain ⟨B, hB⟩ := hide w.heap.size
  have Hws : Hid (B < W1.heap.size) := by rw [← hB.out]; exact lt_of_block hc0
  have H0 := Lib.hid (Below.refl W1.heap.size W1)
  rw [hB.out] at Hx HV
  clear hc hc0 hb1
  have hdef : isSnap index term c data = (inB index 1 1099511627775 && (inB term 1 1099511627775 && (validB c && decide (data.length ≤ 8192)))) := rfl
  have K1 := Lib.hid (fun w' => ref_in_any index 1 1099511627775 w')
  have K2 := Lib.hid (fun w' => ref_in_any term 1 1099511627775 w')
  obtain ⟨r1, hr1⟩ := hide (inB index 1 1099511627775)
  obtain ⟨r2, hr2⟩ := hide (inB term 1 1099511627775)
  obtain ⟨r3, hr3⟩ := hide (validB c)
  rw [hr1.out] at K1 hdef
  rw [hr2.out] at K2 hdef
  rw [hr3.out] at HV hdef
  have t0 : decide ((data.length : Int) ≤ 8192) = decide (data.length ≤ 8192) := by simp only [decide_eq_decide]; omega
  obtain ⟨r4, hr4⟩ := hide (decide (data.length ≤ 8192))
  rw [hr4.out] at hdef t0
  rw [hdef]
  clear hdef
  have T0 := Lib.hid t0
  clear t0
  have c0 := cell_n (Hx.out _ H0.out).1 0 (v := .int .i64 index) rfl
  have c1 := cell_n (Hx.out _ H0.out).1 1 (v := .int .i64 term) rfl
  have c2 := cell_n (Hx.out _ H0.out).1 2 (v := .slice ao1 c.v.length cp1) rfl
  have c3 := cell_n (Hx.out _ H0.out).1 3 (v := .slice ao2 c.n.length cp2) rfl
  have c4 := cell_n (Hx.out _ H0.out).1 4 (v := .slice ao3 c.l.length cp3) rfl
  have c5 := cell_n (Hx.out _ H0.out).1 5 (v := str data) rfl
  go_enter Try.func118, Try.ntmps118
  go_upto_region 1 with fail
  rw [hW1.out, hB.out]
  go_wp2_with fail
  refine (K1.out _).mono ?_
  rintro e w' ⟨rfl, rfl⟩
  go_wp2_with fail
  refine (K2.out _).mono ?_
  rintro e w' ⟨rfl, rfl⟩
  go_wp2_with fail
  refine (HV.out _ (Hx.out _ H0.out).2).mono ?_
  rintro e w2 ⟨rfl, hb2⟩
  have H2 := Lib.hid (H0.out.trans (hb2.mono H0.out.size))
  clear hb2 c0 c1 c2 c3 c4 c5
  have c0 := cell_n (Hx.out _ H2.out).1 0 (v := .int .i64 index) rfl
  have c1 := cell_n (Hx.out _ H2.out).1 1 (v := .int .i64 term) rfl
  have c2 := cell_n (Hx.out _ H2.out).1 2 (v := .slice ao1 c.v.length cp1) rfl
  have c3 := cell_n (Hx.out _ H2.out).1 3 (v := .slice ao2 c.n.length cp2) rfl
  have c4 := cell_n (Hx.out _ H2.out).1 4 (v := .slice ao3 c.l.length cp3) rfl
  have c5 := cell_n (Hx.out _ H2.out).1 5 (v := str data) rfl
  have Hf := Lib.hid (Hx.out _ H2.out).2
  have t0 := T0.out
  cases r1 <;> cases r2 <;> cases r3 <;> cases r4
  all_goals
    go_wp2_with fail
    go_ret
    exact ⟨rfl, by rw [hB.out]; exact Hf.out⟩
end Go.Proofs.Ytbonmeogmjfkeaa
