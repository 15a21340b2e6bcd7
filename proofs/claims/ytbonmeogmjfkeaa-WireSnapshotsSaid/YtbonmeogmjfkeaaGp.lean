/-
  Numbers, one behind the other: both ways of writing them, both ways of reading them, and the law.
-/
import Derived.Test.YtbonmeogmjfkeaaGr
import Derived.Test.YtbonmeogmjfkeaaWq
import Derived.Test.YtbonmeogmjfkeaaRr
import Derived.Test.YtbonmeogmjfkeaaRw
import Derived.Test.YtbonmeogmjfkeaaWp
import Derived.Deep.QuietTactic
import Derived.BigQuiet
namespace Go.Proofs.Ytbonmeogmjfkeaa
open Go.RowKit Wm Mm
set_option linter.unusedVariables false

def putNums (l : List Nat) : List UInt8 := l.flatMap putNum
theorem putNums_len (l : List Nat) (h : ∀ n ∈ l, n < 9223372036854775808) : (putNums l).length ≤ 9 * l.length := by
  induction l with
  | nil => simp [putNums]
  | cons n l ih =>
    have h1 := putNum_len10 (h n (List.mem_cons_self ..))
    have h2 := ih (fun m hm => h m (List.mem_cons_of_mem _ hm))
    simp [putNums] at *
    omega
theorem putNums_snoc (l : List Nat) (n : Nat) : putNums (l ++ [n]) = putNums l ++ putNum n := by simp [putNums]
theorem take_snoc {α : Type} (l : List α) (k : Nat) (h : k < l.length) : l.take (k + 1) = l.take k ++ [l[k]] := by
  rw [List.take_succ_eq_append_getElem h]
abbrev ints (l : List Nat) : List Int := l.map (fun n : Nat => (n : Int))

theorem ints_ne {l : List Nat} {k : Nat} (h : k < l.length) : ints l ≠ [] := by
  cases l with
  | nil => simp at h
  | cons _ _ => simp

set_option maxHeartbeats 1000000 in
theorem ref_putNumbers (v : Value) (l : List Nat) (w : World) (hv : Ints w v (ints l)) (hl : ∀ n ∈ l, n < 9223372036854775808) (hn : l.length ≤ 1000000) :
    Calls Try.prog 17 #[v] w fun e w' => e = .returned (str (putNums l)) ∧ Below w.heap.size w w' := by
  obtain ⟨tot, ht⟩ := hide (putNums l)
  rw [ht.out]
  obtain ⟨ao, cap, rfl, hc, hm⟩ := hv
  have HL := Lib.hid hl
  have HC := Lib.hid hc
  have hlen : (ints l).length = l.length := by simp
  rw [hlen]
  clear hl hc hm hlen
  go_enter Try.func17, Try.ntmps17
  go_wp2
  go_loopw [3, 4] (fun s i wr => ∃ k : Nat, i = .int .i64 k ∧ k ≤ l.length ∧ s = str (putNums (l.take k)) ∧ Hid (Below w.heap.size w wr)) (fun _ i _ => l.length - (intOf i).toNat)
  case atStart => exact ⟨0, rfl, Nat.zero_le _, rfl, Below.refl _ _⟩
  case round =>
    obtain ⟨k, rfl, hk, rfl, hb⟩ := hrel
    by_cases hlt : k < l.length
    · obtain ⟨b, off, rfl, hcell⟩ := HC.out (ints_ne hlt)
      have hcell := hcell k (l[k] : Nat) (by simp [hlt])
      have hcw : wr.cell? ⟨b, off + k, none⟩ = some (.int .i64 (l[k] : Nat)) := by
        rw [hb.out.cell (p := ⟨b, off + k, none⟩) (World.block_lt_of_cell? _ _ hcell)]; exact hcell
      have hx : l[k] < 9223372036854775808 := HL.out _ (List.getElem_mem _)
      have hsn : putNums (l.take (k + 1)) = putNums (l.take k) ++ putNum l[k] := by rw [take_snoc l k hlt, putNums_snoc]
      have hl1 : (putNums (l.take k)).length ≤ 9000000 := by
        have := putNums_len (l.take k) (fun n hn => HL.out n (List.mem_of_mem_take hn))
        have h2 : (l.take k).length ≤ l.length := by simp; omega
        omega
      have hl2 := putNum_len10 hx
      obtain ⟨x, hX⟩ := hide l[k]
      obtain ⟨p, hp⟩ := hide (putNums (l.take k))
      rw [hX.out] at hcw hx hl2 hsn
      rw [hp.out] at hl1 hsn ⊢
      have Hsn := Lib.hid hsn
      have HN := Lib.hid (ref_number_any hx wr)
      clear hcell hsn
      go_wp2_with fail
      refine HN.out.mono ?_
      rintro e w1 ⟨rfl, hb1⟩
      have Hb1 := Lib.hid (hb.out.trans (hb1.mono hb.out.size))
      clear hb1 HN hcw
      obtain ⟨q, hq⟩ := hide (putNum x)
      rw [hq.out] at hl2 ⊢
      have hsum : p.length + q.length ≤ 9223372036854775807 := by omega
      go_wp2_with fail
      go_roundw
      case rel => exact ⟨k + 1, by go_num, by omega, by rw [Hsn.out, hq.out], Hb1⟩
      case measure => simp [intOf]; omega
    · have hkn : k = l.length := by omega
      have e1 : putNums (l.take k) = tot := by rw [← ht.out, List.take_of_length_le (by omega)]
      rw [e1]
      have Hkn := Lib.hid hkn
      clear hkn e1
      go_wp2_with fail
      go_ret
      exact ⟨rfl, hb.out⟩

set_option maxHeartbeats 1000000 in
theorem wire_putNumbers (v : Value) (l : List Nat) (w : World) (hv : Ints w v (ints l)) (hl : ∀ n ∈ l, n < 9223372036854775808) (hn : l.length ≤ 1000000) :
    Calls Try.prog 18 #[v] w fun e w' => e = .returned (str (putNums l)) ∧ Below w.heap.size w w' := by
  obtain ⟨tot, ht⟩ := hide (putNums l)
  rw [ht.out]
  obtain ⟨ao, cap, rfl, hc, hm⟩ := hv
  have HL := Lib.hid hl
  have HC := Lib.hid hc
  have hlen : (ints l).length = l.length := by simp
  rw [hlen]
  clear hl hc hm hlen
  go_enter Try.func18, Try.ntmps18
  go_wp2
  go_loopw [10] (fun i wr => ∃ k : Nat, i = .int .i64 k ∧ k ≤ l.length ∧ Hid (Wr wr w.heap.size (putNums (l.take k))) ∧ Hid (Below w.heap.size w wr)) (fun i _ => l.length - (intOf i).toNat)
  case atStart =>
    refine ⟨0, rfl, Nat.zero_le _, ?_, (Below.refl _ _).alloc (Nat.le_refl _) _⟩
    exact ⟨.slice none 0 0, hp_at _ _ rfl, World.ownsRow_nil _ _ _ _⟩
  case round =>
    obtain ⟨k, rfl, hk, hw, hb⟩ := hrel
    by_cases hlt : k < l.length
    · obtain ⟨b, off, rfl, hcell⟩ := HC.out (ints_ne hlt)
      have hcell := hcell k (l[k] : Nat) (by simp [hlt])
      have hcw : wr.cell? ⟨b, off + k, none⟩ = some (.int .i64 (l[k] : Nat)) := by
        rw [hb.out.cell (p := ⟨b, off + k, none⟩) (World.block_lt_of_cell? _ _ hcell)]; exact hcell
      have hx : l[k] < 9223372036854775808 := HL.out _ (List.getElem_mem _)
      have hsn : putNums (l.take (k + 1)) = putNums (l.take k) ++ putNum l[k] := by rw [take_snoc l k hlt, putNums_snoc]
      have hl1 : (putNums (l.take k)).length ≤ 9000000 := by
        have := putNums_len (l.take k) (fun n hn => HL.out n (List.mem_of_mem_take hn))
        have h2 : (l.take k).length ≤ l.length := by simp; omega
        omega
      have HN := Lib.hid (writer_number l[k] hx (by omega) hw.out)
      rw [← hsn] at HN
      obtain ⟨x, hX⟩ := hide l[k]
      rw [hX.out] at hcw HN
      clear hcell hsn hl1
      go_wp2_with fail
      refine HN.out.mono ?_
      rintro e w1 ⟨rfl, hw1, hb1⟩
      have Hw1 := Lib.hid hw1
      have Hb1 := Lib.hid (hb.out.trans hb1)
      clear hb1 HN hcw hw1
      go_wp2_with fail
      go_roundw
      case rel => exact ⟨k + 1, by go_num, by omega, Hw1, Hb1⟩
      case measure => simp [intOf]; omega
    · have hkn : k = l.length := by omega
      have e1 : l.take k = l := by rw [List.take_of_length_le (by omega)]
      obtain ⟨v, h1, h2⟩ := hw.out
      rw [e1] at h2
      have c1 := cell_of_one h1
      have kc := run_toStr_own (P := Try.prog) wr 80 9 5 _ _ v (putNums l) Try.underlying80 Try.underlying5 Try.underlying9 h2
      have Hkn := Lib.hid hkn
      rw [ht.out] at kc
      clear hkn e1 h1 h2
      go_wp2_with fail
      go_ret
      exact ⟨rfl, hb.out⟩

set_option maxHeartbeats 1000000 in
theorem wire_getNumbers (s : List UInt8) (n : Nat) (w : World) (hn : n ≤ 1000000) (hs : s.length ≤ 9223372036854775807) :
    Calls Try.prog 16 #[str s, .int .i64 n] w (GotInts w (full (rdMany n [] s))) := by
  have hmf : ∀ (fn : Fn) (first cap : Array Value) (w : World), (Instr.makeFunc fn first cap).run Try.prog w = .ok (.func fn first cap) w := fun _ _ _ _ => rfl
  have HN := Lib.hid (read_ints w.heap.size n s (w.alloc (.cells #[.int .i64 n] 3)) hn hs (cell_of_one (hp_at _ _ rfl)))
  obtain ⟨res, HR⟩ := hide (full (rdMany n [] s))
  rw [HR.out] at HN ⊢
  go_enter Try.func16, Try.ntmps16
  go_wp2_with fail
  refine HN.out.mono ?_
  intro e w1 hp
  have hb0 : Below w.heap.size w (w.alloc (.cells #[.int .i64 n] 3)) := (Below.refl _ _).alloc (Nat.le_refl _) _
  cases res with
  | error z =>
    obtain ⟨rfl, hb⟩ := hp
    have Hb := Lib.hid (hb0.trans (hb.mono hb0.size))
    clear hb hb0 HN
    go_wp2_with fail
    go_ret2
    exact ⟨rfl, Hb.out⟩
  | ok l =>
    obtain ⟨v, rfl, ho, hb⟩ := hp
    have Ho := Lib.hid (own_base ho hb0.size)
    have Hb := Lib.hid (hb0.trans (hb.mono hb0.size))
    clear hb hb0 HN ho
    go_wp2_with fail
    go_ret2
    exact ⟨v, rfl, Ho.out, Hb.out⟩

set_option maxHeartbeats 1000000 in
theorem ref_getNumbers (s : List UInt8) (n : Nat) (w : World) (hn : n ≤ 1000000) (hs : s.length ≤ 9223372036854775807) :
    Calls Try.prog 20 #[str s, .int .i64 n] w (GotInts w (match endS (manyS n [] (.ok s)).2 with | 0 => .ok (manyS n [] (.ok s)).1 | z => .error z)) := by
  obtain ⟨fin, HF⟩ := hide (manyS n [] (.ok s))
  rw [HF.out]
  obtain ⟨res, HR⟩ := hide (match endS fin.2 with | 0 => Except.ok fin.1 | z => Except.error z)
  rw [HR.out]
  go_enter Try.func20, Try.ntmps20
  go_wp2
  go_loopw [7, 8] (fun v i wr => ∃ k : Nat, ∃ acc : List Nat, ∃ σ : St, i = .int .i64 k ∧ k ≤ n ∧ Hid (acc.length = k) ∧ Hid (Rs wr w.heap.size σ) ∧ Hid (Below w.heap.size w wr) ∧ Hid (wr.ownsRow (w.heap.size + 1) 3 1 v acc.length (acc.map vNat)) ∧ Hid (manyS (n - k) acc σ = fin))
    (fun _ i _ => n - (intOf i).toNat)
  case atStart => exact ⟨0, [], .ok s, rfl, Nat.zero_le _, rfl, ⟨hp_at _ _ rfl, hs⟩, (Below.refl _ _).alloc (Nat.le_refl _) _, World.ownsRow_nil _ _ _ _, HF⟩
  case round =>
    obtain ⟨k, acc, σ, rfl, hk, hl, hr, hb, ho, hm⟩ := hrel
    by_cases hlt : k < n
    · have hm2 := hm.out
      rw [show n - k = (n - (k + 1)) + 1 from by omega, manyS] at hm2
      have HN := Lib.hid (number_rs hr.out)
      obtain ⟨x, hx⟩ := hide (stepV 0 rdNum σ)
      obtain ⟨σ1, hs1⟩ := hide (stepS rdNum σ)
      rw [hx.out, hs1.out] at hm2 HN
      have Hm2 := Lib.hid hm2
      clear hm2
      go_wp2_with fail
      refine HN.out.mono ?_
      rintro e w1 ⟨rfl, hr1, hg1⟩
      have hne := (own_other ho.out (Nat.lt_succ_self w.heap.size)).symm
      have Hr1 := Lib.hid hr1
      have Ho1 := Lib.hid (ho.out.kept hg1 (Or.inr hne))
      have Hb1 := Lib.hid (hb.out.trans (grown_below hg1 (Nat.le_refl _) hb.out.size))
      have hBs : w.heap.size + 1 ≤ w1.heap.size := Nat.succ_le_of_lt (Rs.lt hr1)
      have Hal : Hid (acc.length + 1 ≤ 1000001) := by have := hl.out; show _ ≤ _; omega
      clear hr1 hg1 hne HN
      go_wp2_with (at_builtin; refine wpList_push rfl _ _ 25 rfl (w.heap.size + 1) 3 (.int .i64 0) 1 8 Try.underlying25 info_int rfl (by decide) _ _ _ rfl Ho1.out _ rfl rfl (by intro u hu; simp at hu; subst hu; rfl) (by have := Hal.out; unfold maxLen; omega) (by have := Hal.out; omega) hBs ?_)
      intro v' w2 ho2 hg2
      have Hr2 := Lib.hid (Rs.kept Hr1.out hg2 (own_other Ho1.out (Nat.lt_succ_self _)))
      have Hb2 := Lib.hid (Hb1.out.trans (below_own Ho1.out hg2 (Nat.le_succ _) (Nat.le_of_succ_le hBs)))
      have Ho2 : Hid (w2.ownsRow (w.heap.size + 1) 3 1 v' (acc ++ [x]).length ((acc ++ [x]).map vNat)) := by
        show _
        have e1 : (acc ++ [x]).length = acc.length + 1 := by simp
        have e2 : (acc ++ [x]).map vNat = acc.map vNat ++ [.int .i64 x] := by simp
        rw [e1, e2]; exact ho2
      clear ho2 hg2
      go_wp2_with fail
      go_roundw
      case rel => exact ⟨k + 1, acc ++ [x], σ1, by go_num, by omega, by have := hl.out; show _ = _; simp [this], Hr2, Hb2, Ho2, Hm2⟩
      case measure => simp [intOf]; omega
    · have hkn : k = n := by omega
      have e1 : (acc, σ) = fin := by rw [← hm.out, show n - k = 0 from by omega]; rfl
      subst e1
      have Hkn := Lib.hid hkn
      clear hkn
      have HE := Lib.hid (end_rs hr.out)
      obtain ⟨z, hz⟩ := hide (endS σ)
      have hR := HR.out
      simp only [hz.out] at hR
      rw [hz.out] at HE
      go_wp2_with fail
      refine HE.out.mono ?_
      rintro e w1 ⟨rfl, hg⟩
      have Hb1 := Lib.hid (hb.out.trans (grown_below hg (Nat.le_refl _) hb.out.size))
      have Ho1 := Lib.hid (ho.out.kept hg (Or.inr (own_other ho.out (Nat.lt_succ_self _)).symm))
      have HRR := Lib.hid hR
      clear hg hR HE
      by_cases h0 : z = 0
      · subst h0
        have e2 : .ok acc = res := HRR.out
        subst e2
        go_wp2_with fail
        go_ret2
        exact ⟨_, rfl, own_base Ho1.out (Nat.le_succ _), Hb1.out⟩
      · have hzb : (z == 0) = false := beq_eq_false_iff_ne.2 h0
        have e2 : .error z = res := by rw [← HRR.out]; split <;> first | rfl | (exfalso; exact h0 rfl)
        subst e2
        have H0 := Lib.hid h0
        clear h0
        go_wp2_with fail
        go_ret2
        exact ⟨rfl, Hb1.out⟩

set_option maxHeartbeats 1000000 in
theorem law_sameInts (u v : Value) (a b : List Int) (w : World) (hu : Ints w u a) (hv : Ints w v b) :
    Calls Try.prog 19 #[u, v] w fun e w' => e = .returned (.bool (decide (a = b))) ∧ Below w.heap.size w w' := by
  obtain ⟨ao, ca, rfl, hca, hma⟩ := hu
  obtain ⟨bo, cb, rfl, hcb, hmb⟩ := hv
  obtain ⟨res, HR⟩ := hide (decide (a = b))
  rw [HR.out]
  have HA := Lib.hid hca
  have HB := Lib.hid hcb
  unfold maxLen at hma hmb
  clear hca hcb
  by_cases hlen : a.length = b.length
  · have hd : ((a.length : Int) != (b.length : Int)) = false := by rw [bne_eq_false_iff_eq]; omega
    have Hlen := Lib.hid hlen
    clear hlen
    go_enter Try.func19, Try.ntmps19
    go_wp2
    go_loopw [5] (fun i wr => ∃ k : Nat, i = .int .i64 k ∧ k ≤ a.length ∧ Hid (a.take k = b.take k) ∧ Hid (Below w.heap.size w wr)) (fun i _ => a.length - (intOf i).toNat)
    case atStart => exact ⟨0, rfl, Nat.zero_le _, rfl, Below.refl _ _⟩
    case round =>
      obtain ⟨k, rfl, hk, he, hb⟩ := hrel
      by_cases hlt : k < a.length
      · have hltb : k < b.length := by rw [← Hlen.out]; exact hlt
        obtain ⟨ba, oa, rfl, hcella⟩ := HA.out (by intro h; rw [h] at hlt; simp at hlt)
        obtain ⟨bb, ob, rfl, hcellb⟩ := HB.out (by intro h; rw [h] at hltb; simp at hltb)
        have ha := hcella k a[k] (by simp [hlt])
        have hb2 := hcellb k b[k] (by simp [hltb])
        have hcwa : wr.cell? ⟨ba, oa + k, none⟩ = some (.int .i64 a[k]) := by
          rw [hb.out.cell (p := ⟨ba, oa + k, none⟩) (World.block_lt_of_cell? _ _ ha)]; exact ha
        have hcwb : wr.cell? ⟨bb, ob + k, none⟩ = some (.int .i64 b[k]) := by
          rw [hb.out.cell (p := ⟨bb, ob + k, none⟩) (World.block_lt_of_cell? _ _ hb2)]; exact hb2
        obtain ⟨x, hX⟩ := hide a[k]
        obtain ⟨y, hY⟩ := hide b[k]
        rw [hX.out] at hcwa
        rw [hY.out] at hcwb
        clear hcella hcellb ha hb2
        have hka : decide (k < a.length) = true := decide_eq_true hlt
        by_cases hxy : x = y
        · have hne : (x != y) = false := by rw [bne_eq_false_iff_eq]; exact hxy
          have Hxy := Lib.hid hxy
          clear hxy
          go_wp2_with (go_quiet (fail))
          refine ⟨⟨k + 1, by go_num, by omega, ?_, below_drewN hb.out _⟩, by simp [intOf]; omega⟩
          show _ = _
          rw [take_snoc a k hlt, take_snoc b k hltb, he.out, hX.out, hY.out, Hxy.out]
        · have hne : (x != y) = true := by rw [bne_iff_ne]; exact hxy
          have e1 : false = res := by
            rw [← HR.out]; symm; apply decide_eq_false
            intro h; subst h; exact hxy (hX.out.symm.trans hY.out)
          subst e1
          clear hxy
          go_wp2_with (go_quiet (fail))
          go_ret
          exact ⟨rfl, below_drewN hb.out _⟩
      · have hka : decide (k < a.length) = false := decide_eq_false hlt
        have e1 : true = res := by
          rw [← HR.out]; symm; apply decide_eq_true
          have h := he.out
          rwa [List.take_of_length_le (by omega), List.take_of_length_le (by have := Hlen.out; omega)] at h
        subst e1
        clear hlt
        go_wp2
        go_ret
        exact ⟨rfl, hb.out⟩
  · have hd : ((a.length : Int) != (b.length : Int)) = true := by rw [bne_iff_ne]; omega
    have e1 : false = res := by
      rw [← HR.out]; symm; apply decide_eq_false
      intro h; exact hlen (by rw [h])
    subst e1
    clear hlen
    go_enter Try.func19, Try.ntmps19
    go_wp2
    go_ret
    exact ⟨rfl, Below.refl _ _⟩
end Go.Proofs.Ytbonmeogmjfkeaa
