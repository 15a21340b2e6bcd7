/-
  Writing lists and configurations, both ways.
-/
import Derived.Test.YtbonmeogmjfkeaaNf
import Derived.Test.YtbonmeogmjfkeaaEn
import Derived.Test.YtbonmeogmjfkeaaGp
namespace Go.Proofs.Ytbonmeogmjfkeaa
open Go.RowKit Wm Mm
set_option linter.unusedVariables false

theorem ints_cell_at {w : World} {a : Option Addr} {n c : Nat} {l : List Int} (h : Ints w (.slice a n c) l) (j : Nat) (x : Int) (hx : l[j]? = some x) :
    ∃ b off, a = some ⟨b, off, none⟩ ∧ w.cell? ⟨b, off + j, none⟩ = some (.int .i64 x) := by
  obtain ⟨ao, cap, he, h1, h2⟩ := h
  obtain ⟨b, off, rfl, h3⟩ := h1 (fun e => by rw [e] at hx; simp at hx)
  injection he with e1 e2 e3
  exact ⟨b, off, e1, h3 j x hx⟩
theorem ints_slice {w : World} {v : Value} {m : List Nat} (h : Ints w v (ints m)) : ∃ ao cap, v = .slice ao m.length cap := by
  obtain ⟨ao, cap, rfl, _, _⟩ := h
  exact ⟨ao, cap, by simp [ints]⟩

def putList (l : List Nat) : List UInt8 := putNum l.length ++ putNums l
theorem putList_len (l : List Nat) (h : ∀ n ∈ l, n < 9223372036854775808) (h9 : l.length ≤ 9) : (putList l).length ≤ 90 := by
  have h1 := putNums_len l h
  have h2 := putNum_len10 (n := l.length) (by omega)
  simp [putList]; omega

set_option maxHeartbeats 1000000 in
theorem writer_numbers {w : World} {b : Nat} {xs : List UInt8} (v : Value) (m : List Nat) (hm : ∀ n ∈ m, n < 9223372036854775808) (h9 : m.length ≤ 9) (hx : xs.length ≤ 140737488350000) (hv : ∀ w', Below b w w' → Ints w' v (ints m)) (h : Wr w b xs) :
    Calls Try.prog 153 #[.pointer (some ⟨b, 0, none⟩), v] w fun e w' =>
      e = .returned (.tuple #[]) ∧ Wr w' b (xs ++ putList m) ∧ BK b w w' := by
  obtain ⟨ao, cap, rfl⟩ := ints_slice (hv w (Below.refl _ _))
  have hl0 := putNum_len10 (n := m.length) (by omega)
  obtain ⟨p0, hp0⟩ := hide (xs ++ putNum m.length)
  have hq0 : p0.length ≤ xs.length + 9 := by rw [← hp0.out, List.length_append]; omega
  have HN := Lib.hid (writer_number_k m.length (by omega) (by omega) h)
  rw [hp0.out] at HN
  have etot : xs ++ putList m = p0 ++ putNums m := by rw [← hp0.out, putList]; simp only [List.append_assoc]
  rw [etot]
  have HV := Lib.hid hv
  have HM := Lib.hid hm
  have Hq0 : Hid (p0.length ≤ 140737488350100) := by show _ ≤ _; omega
  clear h hv hm hx hl0 hq0 etot
  go_enter Try.func153, Try.ntmps153
  go_wp2_with fail
  refine HN.out.mono ?_
  rintro e w1 ⟨rfl, hw1, hb1⟩
  have Hw1 := Lib.hid hw1
  have Hb1 := Lib.hid hb1
  clear hw1 hb1 HN
  go_wp2_with fail
  go_loopw [12] (fun i wr => ∃ k : Nat, i = .int .i64 k ∧ k ≤ m.length ∧ Hid (Wr wr b (p0 ++ putNums (m.take k))) ∧ Hid (BK b w wr)) (fun i _ => m.length - (intOf i).toNat)
  case atStart => exact ⟨0, rfl, Nat.zero_le _, by show Wr _ _ _; simpa [putNums] using Hw1.out, Hb1.out⟩
  case round =>
    obtain ⟨k, rfl, hk, hw, hb⟩ := hrel
    by_cases hlt : k < m.length
    · obtain ⟨bb, off, rfl, hck⟩ := ints_cell_at (HV.out _ hb.out.1) k (m[k] : Nat) (by simp [hlt])
      have hxk : m[k] < 9223372036854775808 := HM.out _ (List.getElem_mem _)
      have hsn : p0 ++ putNums (m.take (k + 1)) = p0 ++ putNums (m.take k) ++ putNum m[k] := by rw [take_snoc m k hlt, putNums_snoc, List.append_assoc]
      have hl1 : (p0 ++ putNums (m.take k)).length ≤ 140737488355300 := by
        have h1 := putNums_len (m.take k) (fun n hn => HM.out n (List.mem_of_mem_take hn))
        have h2 : (m.take k).length ≤ 9 := by simp; omega
        have h3 := Hq0.out
        rw [List.length_append]; omega
      have HN := writer_number_k m[k] hxk hl1 hw.out
      rw [← hsn] at HN
      obtain ⟨x, hX⟩ := hide m[k]
      rw [hX.out] at hck HN
      have HN := Lib.hid HN
      clear hsn hl1 hxk
      go_wp2_with fail
      refine HN.out.mono ?_
      rintro e w2 ⟨rfl, hw2, hb2⟩
      have Hw2 := Lib.hid hw2
      have Hb2 := Lib.hid (hb.out.trans hb2)
      clear hw2 hb2 HN hck
      go_wp2_with fail
      go_roundw
      case rel => exact ⟨k + 1, by go_num, hlt, Hw2, Hb2⟩
      case measure => simp [intOf]; omega
    · have hkn : k = m.length := by omega
      have hfin := hw.out
      rw [hkn, List.take_length] at hfin
      have Hf := Lib.hid hfin
      clear hkn hfin
      go_wp2_with fail
      go_end0
      exact ⟨rfl, Hf.out, hb.out⟩

set_option maxHeartbeats 1000000 in
theorem ref_numbers (v : Value) (m : List Nat) (w : World) (hv : Ints w v (ints m)) (hm : ∀ n ∈ m, n < 9223372036854775808) (h9 : m.length ≤ 9) :
    Calls Try.prog 156 #[v] w fun e w' => e = .returned (str (putList m)) ∧ Below w.heap.size w w' := by
  obtain ⟨ao, cap, rfl⟩ := ints_slice hv
  have HV := Lib.hid hv
  have HM := Lib.hid hm
  have HN := Lib.hid (ref_number_any (n := m.length) (by omega) w)
  have hl0 := putNum_len10 (n := m.length) (by omega)
  obtain ⟨p0, hp0⟩ := hide (putNum m.length)
  rw [hp0.out] at HN hl0
  have etot : putList m = p0 ++ putNums m := by rw [← hp0.out, putList]
  rw [etot]
  clear hv hm etot
  go_enter Try.func156, Try.ntmps156
  go_wp2_with fail
  refine HN.out.mono ?_
  rintro e w1 ⟨rfl, hb1⟩
  have Hb1 := Lib.hid hb1
  clear hb1 HN
  go_wp2_with fail
  go_loopw [3, 4] (fun s i wr => ∃ k : Nat, i = .int .i64 k ∧ k ≤ m.length ∧ s = str (p0 ++ putNums (m.take k)) ∧ Hid (Below w.heap.size w wr)) (fun _ i _ => m.length - (intOf i).toNat)
  case atStart => exact ⟨0, rfl, Nat.zero_le _, by simp [putNums], Hb1.out⟩
  case round =>
    obtain ⟨k, rfl, hk, rfl, hb⟩ := hrel
    by_cases hlt : k < m.length
    · obtain ⟨bb, off, rfl, hck⟩ := ints_cell_at (HV.out.mono hb.out) k (m[k] : Nat) (by simp [hlt])
      have hxk : m[k] < 9223372036854775808 := HM.out _ (List.getElem_mem _)
      have hsn : p0 ++ putNums (m.take (k + 1)) = p0 ++ putNums (m.take k) ++ putNum m[k] := by rw [take_snoc m k hlt, putNums_snoc, List.append_assoc]
      have hl1 : (p0 ++ putNums (m.take k)).length ≤ 100 := by
        have h1 := putNums_len (m.take k) (fun n hn => HM.out n (List.mem_of_mem_take hn))
        have h2 : (m.take k).length ≤ 9 := by simp; omega
        rw [List.length_append]; omega
      have hl2 := putNum_len10 hxk
      have HN := Lib.hid (ref_number_any hxk wr)
      obtain ⟨x, hX⟩ := hide m[k]
      obtain ⟨p, hp⟩ := hide (p0 ++ putNums (m.take k))
      rw [hX.out] at hck HN hsn hl2
      rw [hp.out] at hsn hl1 ⊢
      have Hsn := Lib.hid hsn
      clear hsn
      go_wp2_with fail
      refine HN.out.mono ?_
      rintro e w2 ⟨rfl, hb2⟩
      have Hb2 := Lib.hid (hb.out.trans (hb2.mono hb.out.size))
      clear hb2 HN hck
      obtain ⟨q, hq⟩ := hide (putNum x)
      rw [hq.out] at hl2 ⊢
      have hsum : p.length + q.length ≤ 9223372036854775807 := by omega
      go_wp2_with fail
      go_roundw
      case rel => exact ⟨k + 1, by go_num, hlt, by rw [Hsn.out, hq.out], Hb2⟩
      case measure => simp [intOf]; omega
    · have hkn : k = m.length := by omega
      have e1 : m.take k = m := by rw [hkn, List.take_length]
      rw [e1]
      clear hkn e1
      go_wp2_with fail
      go_ret
      exact ⟨rfl, hb.out⟩
end Go.Proofs.Ytbonmeogmjfkeaa
