/-
  Reading configurations: all bytes, the deferred catch. Writing lists and configurations, both ways. Configurations as bytes, both ways.
-/
import Derived.Test.YtjlhlmnoomiblaaZ16
import Derived.Test.YtjlhlmnoomiblaaZ11
import Derived.Handy
import Derived.Test.YtjlhlmnoomiblaaZ15
import Derived.Test.YtjlhlmnoomiblaaZ09
import Derived.Test.YtjlhlmnoomiblaaZ13
import Derived.Test.YtjlhlmnoomiblaaZ07
import Derived.Deep.DeepCutAuto
namespace Go.Proofs.Ytjlhlmnoomiblaa
open Go.RowKit Wm Mm
set_option linter.unusedVariables false

/-- what a reading of all bytes hands back -/
def GotConf (w : World) (res : Except Int Conf) (e : Ending) (w' : World) : Prop :=
  match res with
  | .ok q => ∃ x y z, e = .returned (.tuple #[.agg #[x, y, z], .int .i64 0]) ∧ Config3F w.heap.size w' x y z q ∧ Below w.heap.size w w'
  | .error z => e = .returned (.tuple #[.agg #[.slice none 0 0, .slice none 0 0, .slice none 0 0], .int .i64 z]) ∧ Below w.heap.size w w'

end Go.Proofs.Ytjlhlmnoomiblaa

namespace Go.Proofs.Ytjlhlmnoomiblaa
open Go.RowKit Wm Mm
set_option linter.unusedVariables false

theorem ints_cell_at {w : World} {a : Option Addr} {n c : Nat} {l : List Int} (h : Ints w (.slice a n c) l) (j : Nat) (x : Int) (hx : l[j]? = some x) :
    ∃ b off, a = some ⟨b, off, none⟩ ∧ w.cell? ⟨b, off + j, none⟩ = some (.int .i64 x) := by
  obtain ⟨ao, cap, he, h1, h2⟩ := h
  obtain ⟨b, off, rfl, h3⟩ := h1 (fun e => by rw [e] at hx; simp at hx)
  injection he with e1 e2 e3
  exact ⟨b, off, e1, h3 j x hx⟩
theorem ints_slice {w : World} {v : Value} {m : List Nat} (h : Ints w v (ints m)) : ∃ ao cap, v = .slice ao m.length cap := by
  obtain ⟨ao, cap, rfl, _, _⟩ := h
  exact ⟨ao, cap, by simp [ints]⟩

def putList (l : List Nat) : List UInt8 := putNum l.length ++ putNums l
theorem putList_len (l : List Nat) (h : ∀ n ∈ l, n < 9223372036854775808) (h9 : l.length ≤ 9) : (putList l).length ≤ 90 := by
  have h1 := putNums_len l h
  have h2 := putNum_len10 (n := l.length) (by omega)
  simp [putList]; omega

set_option maxHeartbeats 1000000 in
theorem writer_numbers {w : World} {b : Nat} {xs : List UInt8} (v : Value) (m : List Nat) (hm : ∀ n ∈ m, n < 9223372036854775808) (h9 : m.length ≤ 9) (hx : xs.length ≤ 140737488350000) (hv : ∀ w', Below b w w' → Ints w' v (ints m)) (h : Wr w b xs) :
    Calls Try.prog 60 #[.pointer (some ⟨b, 0, none⟩), v] w fun e w' =>
      e = .returned (.tuple #[]) ∧ Wr w' b (xs ++ putList m) ∧ BK b w w' := by
  obtain ⟨ao, cap, rfl⟩ := ints_slice (hv w (Below.refl _ _))
  have hl0 := putNum_len10 (n := m.length) (by omega)
  obtain ⟨p0, hp0⟩ := hide (xs ++ putNum m.length)
  have hq0 : p0.length ≤ xs.length + 9 := by rw [← hp0.out, List.length_append]; omega
  have HN := Lib.hid (writer_number_k m.length (by omega) (by omega) h)
  rw [hp0.out] at HN
  have etot : xs ++ putList m = p0 ++ putNums m := by rw [← hp0.out, putList]; simp only [List.append_assoc]
  rw [etot]
  have HV := Lib.hid hv
  have HM := Lib.hid hm
  have Hq0 : Hid (p0.length ≤ 140737488350100) := by show _ ≤ _; omega
  clear h hv hm hx hl0 hq0 etot
  go_enter Try.func60, Try.ntmps60
  go_wp2_with fail
  refine HN.out.mono ?_
  rintro e w1 ⟨rfl, hw1, hb1⟩
  have Hw1 := Lib.hid hw1
  have Hb1 := Lib.hid hb1
  clear hw1 hb1 HN
  go_wp2_with fail
  go_loopw [12] (fun i wr => ∃ k : Nat, i = .int .i64 k ∧ k ≤ m.length ∧ Hid (Wr wr b (p0 ++ putNums (m.take k))) ∧ Hid (BK b w wr)) (fun i _ => m.length - (intOf i).toNat)
  case atStart => exact ⟨0, rfl, Nat.zero_le _, by show Wr _ _ _; simpa [putNums] using Hw1.out, Hb1.out⟩
  case round =>
    obtain ⟨k, rfl, hk, hw, hb⟩ := hrel
    by_cases hlt : k < m.length
    · obtain ⟨bb, off, rfl, hck⟩ := ints_cell_at (HV.out _ hb.out.1) k (m[k] : Nat) (by simp [hlt])
      have hxk : m[k] < 9223372036854775808 := HM.out _ (List.getElem_mem _)
      have hsn : p0 ++ putNums (m.take (k + 1)) = p0 ++ putNums (m.take k) ++ putNum m[k] := by rw [take_snoc m k hlt, putNums_snoc, List.append_assoc]
      have hl1 : (p0 ++ putNums (m.take k)).length ≤ 140737488355300 := by
        have h1 := putNums_len (m.take k) (fun n hn => HM.out n (List.mem_of_mem_take hn))
        have h2 : (m.take k).length ≤ 9 := by simp; omega
        have h3 := Hq0.out
        rw [List.length_append]; omega
      have HN := writer_number_k m[k] hxk hl1 hw.out
      rw [← hsn] at HN
      obtain ⟨x, hX⟩ := hide m[k]
      rw [hX.out] at hck HN
      have HN := Lib.hid HN
      clear hsn hl1 hxk
      go_wp2_with fail
      refine HN.out.mono ?_
      rintro e w2 ⟨rfl, hw2, hb2⟩
      have Hw2 := Lib.hid hw2
      have Hb2 := Lib.hid (hb.out.trans hb2)
      clear hw2 hb2 HN hck
      go_wp2_with fail
      go_roundw
      case rel => exact ⟨k + 1, by go_num, hlt, Hw2, Hb2⟩
      case measure => simp [intOf]; omega
    · have hkn : k = m.length := by omega
      have hfin := hw.out
      rw [hkn, List.take_length] at hfin
      have Hf := Lib.hid hfin
      clear hkn hfin
      go_wp2_with fail
      go_end0
      exact ⟨rfl, Hf.out, hb.out⟩

end Go.Proofs.Ytjlhlmnoomiblaa

namespace Go.Proofs.Ytjlhlmnoomiblaa
open Go.RowKit Wm Mm
set_option linter.unusedVariables false

theorem okAt_facts {l : List Int} {i : Nat} (hi : i < l.length) (h : okAt l i = true) : 1 ≤ l[i] ∧ l[i] ≤ 9 ∧ ∀ j (hj : j + 1 = i), l[j]'(by omega) < l[i] := by
  unfold okAt at h
  rw [List.getElem?_eq_getElem hi] at h
  simp only [okX, Bool.and_eq_true, decide_eq_true_eq] at h
  refine ⟨h.1, h.2.1, fun j hj => ?_⟩
  subst hj
  have h2 := h.2.2
  rw [okPrev, List.getElem?_eq_getElem (by omega : j < l.length)] at h2
  simpa using h2
theorem rising_facts {l : List Int} (h : risingB l = true) : ∃ m : List Nat, l = ints m ∧ (∀ n ∈ m, n ≤ 9) ∧ m.length ≤ 9 := by
  have hall : ∀ i (hi : i < l.length), okAt l i = true := by
    intro i hi
    simp only [risingB, List.all_eq_true, List.mem_range] at h
    exact h i hi
  have hge : ∀ i (hi : i < l.length), (i : Int) + 1 ≤ l[i] := by
    intro i
    induction i with
    | zero => intro hi; have := (okAt_facts hi (hall 0 hi)).1; simpa using this
    | succ j ih =>
      intro hi
      have h1 := ih (by omega)
      have h2 := (okAt_facts hi (hall _ hi)).2.2 j rfl
      push_cast
      omega
  have hb : ∀ x ∈ l, 1 ≤ x ∧ x ≤ 9 := by
    intro x hx
    obtain ⟨i, hi, rfl⟩ := List.getElem_of_mem hx
    have := okAt_facts hi (hall i hi)
    exact ⟨this.1, this.2.1⟩
  refine ⟨l.map Int.toNat, ?_, ?_, ?_⟩
  · simp only [ints, List.map_map]
    conv => lhs; rw [← List.map_id l]
    apply List.map_congr_left
    intro x hx
    have := hb x hx
    simp; omega
  · intro n hn
    obtain ⟨x, hx, rfl⟩ := List.mem_map.1 hn
    have := hb x hx
    omega
  · rw [List.length_map]
    rcases Nat.eq_zero_or_pos l.length with h0 | h0
    · omega
    · have h1 := hge (l.length - 1) (by omega)
      have h2 := (okAt_facts (i := l.length - 1) (by omega) (hall _ (by omega))).2.1
      omega
def natL (l : List Int) : List Nat := l.map Int.toNat
theorem natL_ints (m : List Nat) : natL (ints m) = m := by
  simp [natL, ints, Function.comp_def]
def putConf (c : Conf) : List UInt8 := putList (natL c.v) ++ (putList (natL c.n) ++ putList (natL c.l))
theorem valid_facts {c : Conf} (h : validB c = true) : ∃ m1 m2 m3 : List Nat, c = ⟨ints m1, ints m2, ints m3⟩ ∧ (∀ n ∈ m1, n ≤ 9) ∧ (∀ n ∈ m2, n ≤ 9) ∧ (∀ n ∈ m3, n ≤ 9) ∧ m1.length ≤ 9 ∧ m2.length ≤ 9 ∧ m3.length ≤ 9 := by
  simp only [validB, Bool.and_eq_true] at h
  obtain ⟨_, h1, h2, h3, _⟩ := h
  obtain ⟨m1, e1, a1, b1⟩ := rising_facts h1
  obtain ⟨m2, e2, a2, b2⟩ := rising_facts h2
  obtain ⟨m3, e3, a3, b3⟩ := rising_facts h3
  refine ⟨m1, m2, m3, ?_, a1, a2, a3, b1, b2, b3⟩
  cases c
  simp_all
def putConfB (c : Conf) : List UInt8 := if validB c = true then putConf c else []
def putConfE (c : Conf) : Int := if validB c = true then 0 else 8
theorem putConf_len {c : Conf} (h : validB c = true) : (putConf c).length ≤ 270 := by
  obtain ⟨m1, m2, m3, rfl, a1, a2, a3, b1, b2, b3⟩ := valid_facts h
  have h1 := putList_len m1 (fun n hn => by have := a1 n hn; omega) b1
  have h2 := putList_len m2 (fun n hn => by have := a2 n hn; omega) b2
  have h3 := putList_len m3 (fun n hn => by have := a3 n hn; omega) b3
  simp only [putConf, natL_ints, List.length_append]
  omega

set_option maxHeartbeats 1000000 in
theorem writer_config {w : World} {b : Nat} {xs : List UInt8} (x y z : Value) (c : Conf) (hval : validB c = true) (hx : xs.length ≤ 140737488340000) (hv : ∀ w', Below b w w' → Config3 w' x y z c) (h : Wr w b xs) :
    Calls Try.prog 54 #[.pointer (some ⟨b, 0, none⟩), .agg #[x, y, z]] w fun e w' =>
      e = .returned (.tuple #[]) ∧ Wr w' b (xs ++ putConf c) ∧ BK b w w' := by
  obtain ⟨m1, m2, m3, rfl, a1, a2, a3, b1, b2, b3⟩ := valid_facts hval
  have hbw : b < w.heap.size := by obtain ⟨v, hb, _⟩ := h; exact lt_of_block hb
  have hl1 := putList_len m1 (fun n hn => by have := a1 n hn; omega) b1
  have hl2 := putList_len m2 (fun n hn => by have := a2 n hn; omega) b2
  have hl3 := putList_len m3 (fun n hn => by have := a3 n hn; omega) b3
  have hT : (24 : TypeId) ≠ 5 := by decide
  obtain ⟨W, hW⟩ := hide (w.alloc (.cells #[x, y, z] 24))
  have ha : Wr W b xs := by
    rw [← hW.out]
    obtain ⟨v, hb, ho⟩ := h
    exact ⟨v, (hp_past _ _ (by omega)).trans hb, ho.alloc _⟩
  have hba : BK b w W := by rw [← hW.out]; exact BK.alloc _ (by omega)
  have hc : W.heap[w.heap.size]? = some (.cells #[x, y, z] 24 (0, 0)) := by rw [← hW.out]; exact hp_at _ _ rfl
  obtain ⟨ao1, cp1, rfl⟩ := ints_slice (hv w (Below.refl _ _)).v
  obtain ⟨ao2, cp2, rfl⟩ := ints_slice (hv w (Below.refl _ _)).n
  obtain ⟨ao3, cp3, rfl⟩ := ints_slice (hv w (Below.refl _ _)).l
  obtain ⟨p1, hp1⟩ := hide (xs ++ putList m1)
  obtain ⟨p2, hp2⟩ := hide (p1 ++ putList m2)
  obtain ⟨p3, hp3⟩ := hide (p2 ++ putList m3)
  have hq1 : p1.length ≤ xs.length + 90 := by rw [← hp1.out, List.length_append]; omega
  have hq2 : p2.length ≤ xs.length + 180 := by rw [← hp2.out, List.length_append]; omega
  have e4 : xs ++ putConf ⟨ints m1, ints m2, ints m3⟩ = p3 := by rw [← hp3.out, ← hp2.out, ← hp1.out, putConf]; simp only [List.append_assoc, natL_ints]
  rw [e4]
  have HT1 : Hid (∀ w1, BK b w w1 → Wr w1 b xs → Calls Try.prog 60 #[.pointer (some ⟨b, 0, none⟩), .slice ao1 m1.length cp1] w1 fun e w' => e = .returned (.tuple #[]) ∧ Wr w' b p1 ∧ BK b w1 w') := fun w1 hk hw => by
    rw [← hp1.out]; exact writer_numbers _ m1 (fun n hn => by have := a1 n hn; omega) b1 (by omega) (fun w' hb => (hv w' (hk.1.trans hb)).v) hw
  have HT2 : Hid (∀ w1, BK b w w1 → Wr w1 b p1 → Calls Try.prog 60 #[.pointer (some ⟨b, 0, none⟩), .slice ao2 m2.length cp2] w1 fun e w' => e = .returned (.tuple #[]) ∧ Wr w' b p2 ∧ BK b w1 w') := fun w1 hk hw => by
    rw [← hp2.out]; exact writer_numbers _ m2 (fun n hn => by have := a2 n hn; omega) b2 (by omega) (fun w' hb => (hv w' (hk.1.trans hb)).n) hw
  have HT3 : Hid (∀ w1, BK b w w1 → Wr w1 b p2 → Calls Try.prog 60 #[.pointer (some ⟨b, 0, none⟩), .slice ao3 m3.length cp3] w1 fun e w' => e = .returned (.tuple #[]) ∧ Wr w' b p3 ∧ BK b w1 w') := fun w1 hk hw => by
    rw [← hp3.out]; exact writer_numbers _ m3 (fun n hn => by have := a3 n hn; omega) b3 (by omega) (fun w' hb => (hv w' (hk.1.trans hb)).l) hw
  have Hba := Lib.hid hba
  have Hw0 := Lib.hid ha
  have Hc0 := Lib.hid hc
  have Hbn : Hid (w.heap.size ≠ b) := by show _ ≠ _; omega
  have c0 := cell_n hc 0 (v := .slice ao1 m1.length cp1) rfl
  clear h ha hba hc hx hl1 hl2 hl3 hq1 hq2 e4 hbw hv a1 a2 a3 b1 b2 b3 hval
  obtain ⟨B, hB⟩ := hide w.heap.size
  rw [hB.out] at Hc0 Hbn c0
  go_enter Try.func54, Try.ntmps54
  go_upto_region 1 with fail
  rw [hW.out, hB.out]
  go_wp2_with fail
  refine (HT1.out _ Hba.out Hw0.out).mono ?_
  rintro e w1 ⟨rfl, hw1, hb1⟩
  have hc1 := hb1.2 _ _ _ Hbn.out hT Hc0.out
  clear c0
  have c0 := cell_n hc1 1 (v := .slice ao2 m2.length cp2) rfl
  have Hc1 := Lib.hid hc1
  have Hb1 := Lib.hid (Hba.out.trans hb1)
  have Hw1 := Lib.hid hw1
  clear hc1 hb1 hw1
  go_wp2_with fail
  refine (HT2.out _ Hb1.out Hw1.out).mono ?_
  rintro e w2 ⟨rfl, hw1, hb1⟩
  have hc1 := hb1.2 _ _ _ Hbn.out hT Hc1.out
  clear c0
  have c0 := cell_n hc1 2 (v := .slice ao3 m3.length cp3) rfl
  have Hb2 := Lib.hid (Hb1.out.trans hb1)
  have Hw2 := Lib.hid hw1
  clear hc1 hb1 hw1
  go_wp2_with fail
  refine (HT3.out _ Hb2.out Hw2.out).mono ?_
  rintro e w3 ⟨rfl, hw1, hb1⟩
  clear c0
  have Hb3 := Lib.hid (Hb2.out.trans hb1)
  have Hw3 := Lib.hid hw1
  clear hb1 hw1
  go_wp2_with fail
  go_end0
  exact ⟨rfl, Hw3.out, Hb3.out⟩

end Go.Proofs.Ytjlhlmnoomiblaa
