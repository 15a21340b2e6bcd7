/-
  The law WireNumbers answers true, whatever comes in. No condition.
-/
import Derived.Test.YtbonmeogmjfkeaaGp
import Derived.ProofKit
namespace Go.Proofs.Ytbonmeogmjfkeaa
open Go.RowKit Wm Mm
set_option linter.unusedVariables false

def gotL (res : Except Int (List Nat)) : List Nat :=
  match res with
  | .ok l => l
  | .error _ => []
def gotE (res : Except Int (List Nat)) : Int :=
  match res with
  | .ok _ => 0
  | .error z => z
theorem GotInts.use {w w' : World} {res : Except Int (List Nat)} {e : Ending} (h : GotInts w res e w') :
    ∃ v, e = .returned (.tuple #[v, .int .i64 (gotE res)]) ∧ Ints w' v (ints (gotL res)) ∧ Below w.heap.size w w' := by
  cases res with
  | error z =>
    obtain ⟨rfl, hb⟩ := h
    exact ⟨_, rfl, ⟨none, 0, rfl, fun h => absurd rfl h, Nat.zero_le _⟩, hb⟩
  | ok l =>
    obtain ⟨v, rfl, ho, hb⟩ := h
    refine ⟨v, rfl, Ints.of_own (base := w.heap.size) (e := 3) (n := l.length) ?_, hb⟩
    have e1 : (ints (gotL (.ok l))).map (Value.int .i64) = l.map vNat := by simp [gotL]
    rw [e1]; exact ho

/-- a number of the list that the law makes of what came in -/
def tame (x : Int) : Nat := (x.tmod 1099511627776).natAbs
theorem tame_le (x : Int) : tame x ≤ 1099511627775 := by
  unfold tame
  have h : (x.tmod 1099511627776).natAbs = x.natAbs % 1099511627776 := by rw [Int.natAbs_tmod]; rfl
  rw [h]; omega
theorem tame_eq (x : Int) : (tame x : Int) = if x.tmod 1099511627776 < 0 then -(x.tmod 1099511627776) else x.tmod 1099511627776 := by
  unfold tame; split <;> omega

def natRow (l : List Nat) : List Value := l.map vNat
theorem natRow_snoc (l : List Nat) (m : Nat) (r : Int) (h : (m : Int) = r) : natRow (l ++ [m]) = natRow l ++ [.int .i64 r] := by
  subst h; simp [natRow]
theorem ints_row (l : List Nat) : (ints l).map (Value.int .i64) = natRow l := by simp [natRow]

theorem known_numbers : full (rdMany 2 [] [172, 2, 0]) = .ok [300, 0] := by rfl

theorem wget {s : List UInt8} {n : Nat} {R : Except Int (List Nat)} (w : World) (hR : Hid (full (rdMany n [] s) = R)) (hn : n ≤ 1000000) (hs : s.length ≤ 9223372036854775807) :
    Calls Try.prog 16 #[str s, .int .i64 n] w fun e w' => ∃ v, e = .returned (.tuple #[v, .int .i64 (gotE R)]) ∧ Ints w' v (ints (gotL R)) ∧ Below w.heap.size w w' :=
  (wire_getNumbers s n w hn hs).mono fun e w' h => by rw [hR.out] at h; exact h.use
theorem rget {s : List UInt8} {n : Nat} {R : Except Int (List Nat)} (w : World) (hR : Hid (full (rdMany n [] s) = R)) (hn : n ≤ 1000000) (hs : s.length ≤ 9223372036854775807) :
    Calls Try.prog 20 #[str s, .int .i64 n] w fun e w' => ∃ v, e = .returned (.tuple #[v, .int .i64 (gotE R)]) ∧ Ints w' v (ints (gotL R)) ∧ Below w.heap.size w w' :=
  (ref_getNumbers s n w hn hs).mono fun e w' h => by
    have h2 : GotInts w R e w' := by rw [← hR.out, ← many_same]; exact h
    exact h2.use
theorem isame {u v : Value} {a : List Int} (w : World) (hu : Ints w u a) (hv : Ints w v a) :
    Calls Try.prog 19 #[u, v] w fun e w' => e = .returned (.bool true) ∧ Below w.heap.size w w' :=
  (law_sameInts u v a a w hu hv).mono fun e w' h => by simpa using h

set_option maxHeartbeats 4000000 in
set_option maxRecDepth 100000 in
theorem law_numbers (v : Value) (L : List Int) (s : List UInt8) (count : Int) (w : World) (hv : Ints w v L) (hs : s.length ≤ 140737488355328) :
    Calls Try.prog 4 #[v, str s, .int .i64 count] w fun e w' => e = .returned (.bool true) ∧ Below w.heap.size w w' := by
  have HK := Lib.hid (wire_getNumbers [172, 2, 0] 2 w (by decide) (by decide))
  rw [known_numbers] at HK
  obtain ⟨ao, cap, rfl, hc, hm⟩ := hv
  obtain ⟨TL, hTL⟩ := hide (L.map tame)
  have HTl : Hid (TL.length = L.length) := by show _ = _; rw [← hTL.out]; simp
  have HC := Lib.hid hc
  unfold maxLen at hm
  clear hc
  go_enter Try.func4, Try.ntmps4
  go_wp2_with fail
  refine HK.out.mono ?_
  intro e w1 hp
  obtain ⟨v1, rfl, hv1, hb1⟩ := hp.use
  obtain ⟨a1, c1, rfl, hc1, _⟩ := hv1
  obtain ⟨b1, o1, rfl, hcell1⟩ := hc1 (by decide)
  have h0 : w1.cell? ⟨b1, o1, none⟩ = some (.int .i64 300) := hcell1 0 300 rfl
  have h1 : w1.cell? ⟨b1, o1 + 1, none⟩ = some (.int .i64 0) := hcell1 1 0 rfl
  have Hb1 := Lib.hid hb1
  clear hp hcell1 hc1 hb1 HK
  go_wp2_with fail
  go_loopw [9, 10] (fun u i wr => ∃ k : Nat, i = .int .i64 k ∧ k ≤ L.length ∧ k ≤ 16 ∧ Hid (Below w.heap.size w wr) ∧ Hid (wr.ownsRow w.heap.size 3 1 u k (natRow (TL.take k))))
    (fun _ i _ => 16 - (intOf i).toNat)
  case atStart => exact ⟨0, rfl, Nat.zero_le _, Nat.zero_le _, Hb1, World.ownsRow_nil _ _ _ _⟩
  case round =>
    obtain ⟨k, rfl, hk, hk16, hb, ho⟩ := hrel
    by_cases hgo : k < L.length ∧ k < 16
    · obtain ⟨hlt, hlt16⟩ := hgo
      have t0 : decide (k < L.length) = true := decide_eq_true hlt
      have t1 : decide ((k : Int) < 16) = true := decide_eq_true (by omega)
      obtain ⟨b, off, rfl, hcell⟩ := HC.out (by intro h; rw [h] at hlt; simp at hlt)
      have hcell := hcell k L[k] (by simp [hlt])
      have hcw : wr.cell? ⟨b, off + k, none⟩ = some (.int .i64 L[k]) := by
        rw [hb.out.cell (p := ⟨b, off + k, none⟩) (World.block_lt_of_cell? _ _ hcell)]; exact hcell
      obtain ⟨x, hX⟩ := hide L[k]
      rw [hX.out] at hcw
      have hte := tame_eq x
      have htl := tame_le x
      obtain ⟨r, hr⟩ : ∃ r : Int, x.tmod 1099511627776 = r := ⟨_, rfl⟩
      rw [hr] at hte
      obtain ⟨m, hm2⟩ := hide (tame x)
      rw [hm2.out] at hte htl
      have hr1 : -1099511627775 ≤ r := by split at hte <;> omega
      have hr2 : r ≤ 1099511627775 := by split at hte <;> omega
      have Hte := Lib.hid hte
      have hsn : TL.take (k + 1) = TL.take k ++ [m] := by
        have hlt2 : k < TL.length := by rw [HTl.out]; exact hlt
        rw [take_snoc TL k hlt2]
        congr 2
        have e : TL[k] = tame L[k] := by simp [← hTL.out]
        rw [e, hX.out, hm2.out]
      have Hsn := Lib.hid hsn
      have Hm := Lib.hid htl
      have hBs := hb.out.size
      clear hcell hte htl hsn
      by_cases hneg : r < 0
      · have t2 : decide (r < 0) = true := decide_eq_true hneg
        have Hmr : Hid ((m : Int) = -r) := by have h := Hte.out; rw [if_pos hneg] at h; exact h
        clear Hte
        go_wp2_with (at_builtin; refine wpList_push rfl _ _ 25 rfl w.heap.size 3 (.int .i64 0) 1 8 Try.underlying25 info_int rfl (by decide) _ _ _ rfl ho.out _ rfl rfl (by intro u hu; simp at hu; subst hu; rfl) (by unfold maxLen; omega) (by omega) hBs ?_)
        intro v' w2 ho2 hg2
        have Hb2 := Lib.hid (hb.out.trans (below_own ho.out hg2 (Nat.le_refl _) hBs))
        have Ho2 : Hid (w2.ownsRow w.heap.size 3 1 v' (k + 1) (natRow (TL.take (k + 1)))) := by
          show _
          rw [Hsn.out, natRow_snoc _ _ _ Hmr.out]; exact ho2
        clear ho2 hg2
        go_wp2_with fail
        go_roundw
        case rel => exact ⟨k + 1, by go_num, by omega, by omega, Hb2, Ho2⟩
        case measure => simp [intOf]; omega
      · have t2 : decide (r < 0) = false := decide_eq_false hneg
        have Hmr : Hid ((m : Int) = r) := by have h := Hte.out; rw [if_neg hneg] at h; exact h
        clear Hte
        go_wp2_with (at_builtin; refine wpList_push rfl _ _ 25 rfl w.heap.size 3 (.int .i64 0) 1 8 Try.underlying25 info_int rfl (by decide) _ _ _ rfl ho.out _ rfl rfl (by intro u hu; simp at hu; subst hu; rfl) (by unfold maxLen; omega) (by omega) hBs ?_)
        intro v' w2 ho2 hg2
        have Hb2 := Lib.hid (hb.out.trans (below_own ho.out hg2 (Nat.le_refl _) hBs))
        have Ho2 : Hid (w2.ownsRow w.heap.size 3 1 v' (k + 1) (natRow (TL.take (k + 1)))) := by
          show _
          rw [Hsn.out, natRow_snoc _ _ _ Hmr.out]; exact ho2
        clear ho2 hg2
        go_wp2_with fail
        go_roundw
        case rel => exact ⟨k + 1, by go_num, by omega, by omega, Hb2, Ho2⟩
        case measure => simp [intOf]; omega
    · obtain ⟨l, hl⟩ := hide (TL.take k)
      rw [hl.out] at ho
      have hll : l.length = k := by rw [← hl.out]; have := HTl.out; simp; omega
      have hl40 : ∀ n ∈ l, n ≤ 1099511627775 := by
        intro n hn; rw [← hl.out] at hn
        have hn := List.mem_of_mem_take hn
        rw [← hTL.out] at hn
        obtain ⟨x, _, rfl⟩ := List.mem_map.1 hn
        exact tame_le x
      have Hll := Lib.hid hll
      have H40 := Lib.hid hl40
      have hBs := hb.out.size
      obtain ⟨a9, c9, rfl⟩ := owns_slice ho.out
      have hin : Ints wr (.slice a9 k c9) (ints l) := Ints.of_own (base := w.heap.size) (e := 3) (n := k) (by rw [ints_row]; exact ho.out)
      have h63 : ∀ n ∈ l, n < 9223372036854775808 := fun n hn => by have := hl40 n hn; omega
      have hpl : (putNums l).length ≤ 144 := by have := putNums_len l h63; omega
      have hback : Hid (full (rdMany k [] (putNums l)) = .ok l) := by
        have h := rdMany_put l [] [] hl40
        rw [List.append_nil, hll] at h
        show full (rdMany k [] (l.flatMap putNum)) = _
        rw [h]; rfl
      have HR1 := Lib.hid (ref_putNumbers _ l wr hin h63 (by omega))
      have H63 := Lib.hid h63
      have Hin := Lib.hid hin
      have hdone : decide (k < L.length) = false ∨ (decide (k < L.length) = true ∧ decide ((k : Int) < 16) = false) := by
        by_cases h1 : k < L.length
        · exact Or.inr ⟨decide_eq_true h1, decide_eq_false (by intro h2; exact hgo ⟨h1, by omega⟩)⟩
        · exact Or.inl (decide_eq_false h1)
      obtain ⟨p, hp⟩ := hide (putNums l)
      rw [hp.out] at hpl hback HR1
      clear hl40 hin h63 hgo hll
      rcases hdone with t0 | ⟨t0, t1⟩
      all_goals
        go_wp2_with fail
        refine HR1.out.mono ?_
        rintro e w2 ⟨rfl, hb2⟩
        have Ho2 := Lib.hid (own_below ho.out hb2)
        have Hb2 := Lib.hid (hb.out.trans (hb2.mono hBs))
        have Hin2 := Lib.hid (Hin.out.mono hb2)
        have hBs2 := Hb2.out.size
        clear hb2 HR1
        go_wp2_with (at_builtin; refine wpList_append_src rfl _ _ 25 25 rfl w.heap.size 3 (.int .i64 0) 1 8 Try.underlying25 info_int rfl _ 0 [] rfl (World.ownsRow_nil _ _ _ _) _ k (natRow l) rfl (src_own Try.underlying25 Ho2.out (by intro u hu; simp [natRow] at hu; obtain ⟨_, _, rfl⟩ := hu; rfl)) (by unfold maxLen; omega) (by omega) hBs2 ?_)
        intro v3 w3 ho3 hg3
        have hb3 : Below w2.heap.size w2 w3 := ⟨hg3.os, hg3.tape, hg3.output, hg3.size, fun j hj => hg3.block j hj (by simp [Value.ownBlock])⟩
        have Hin3 := Lib.hid (Hin2.out.mono hb3)
        have Hb3 := Lib.hid (Hb2.out.trans (hb3.mono hBs2))
        have hin3 : Ints w3 v3 (ints l) := Ints.of_own (base := w.heap.size) (e := 3) (n := 0 + k) (by rw [ints_row]; simpa using ho3)
        have HW := Lib.hid (wire_putNumbers _ l w3 hin3 H63.out (by have := Hll.out; omega))
        rw [hp.out] at HW
        clear ho3 hg3 hb3 hin3
        go_wp2_with fail
        refine HW.out.mono ?_
        rintro e w4 ⟨rfl, hb4⟩
        have Hin4 := Lib.hid (Hin3.out.mono hb4)
        have Hb4 := Lib.hid (Hb3.out.trans (hb4.mono Hb3.out.size))
        clear hb4 HW
        go_wp2_with fail
        refine (wget _ hback (by omega) (by omega)).mono ?_
        rintro e w5 ⟨v5, rfl, hv5, hb5⟩
        have e5 : gotE (.ok l) = 0 := rfl
        have e6 : gotL (.ok l) = l := rfl
        rw [e6] at hv5
        rw [e5]
        have Hin5 := Lib.hid (Hin4.out.mono hb5)
        have Hb5 := Lib.hid (Hb4.out.trans (hb5.mono Hb4.out.size))
        have HS := Lib.hid (isame w5 hv5 Hin5.out)
        clear hb5 hv5 e5 e6
        go_wp2_with fail
        refine HS.out.mono ?_
        rintro e w6 ⟨rfl, hb6⟩
        have Hb6 := Lib.hid (Hb5.out.trans (hb6.mono Hb5.out.size))
        clear hb6 HS
        have hsum : p.length + s.length ≤ 9223372036854775807 := by omega
        have hps : (p ++ s).length ≤ 9223372036854775807 := by simp; omega
        have Hps := Lib.hid hps
        clear hps
        have hcase : (decide (count < 0) = true) ∨ (decide (count < 0) = false ∧ decide ((16 : Int) < count) = true) ∨ ∃ cnt : Nat, count = cnt ∧ cnt ≤ 16 := by
          by_cases hc1 : count < 0
          · exact Or.inl (decide_eq_true hc1)
          · by_cases hc2 : 16 < count
            · exact Or.inr (Or.inl ⟨decide_eq_false hc1, decide_eq_true hc2⟩)
            · exact Or.inr (Or.inr ⟨count.toNat, by omega, by omega⟩)
        rcases hcase with t2 | ⟨t2, t3⟩ | ⟨cnt, rfl, t2⟩
        all_goals
          go_wp2_with fail
          refine (wget _ rfl (by omega) Hps.out).mono ?_
          rintro e w7 ⟨v7, rfl, hv7, hb7⟩
          have Hv7 := Lib.hid hv7
          have Hb7 := Lib.hid (Hb6.out.trans (hb7.mono Hb6.out.size))
          clear hb7 hv7
          go_wp2_with fail
          refine (rget _ rfl (by omega) Hps.out).mono ?_
          rintro e w8 ⟨v8, rfl, hv8, hb8⟩
          have Hv7b := Lib.hid (Hv7.out.mono hb8)
          have Hv8 := Lib.hid hv8
          have Hb8 := Lib.hid (Hb7.out.trans (hb8.mono Hb7.out.size))
          clear hb8 hv8
          go_wp2_with fail
          refine (wget _ rfl (by omega) (by omega)).mono ?_
          rintro e w9 ⟨v9, rfl, hv9, hb9⟩
          have Hv7c := Lib.hid (Hv7b.out.mono hb9)
          have Hv8c := Lib.hid (Hv8.out.mono hb9)
          have Hv9 := Lib.hid hv9
          have Hb9 := Lib.hid (Hb8.out.trans (hb9.mono Hb8.out.size))
          clear hb9 hv9
          go_wp2_with fail
          refine (rget _ rfl (by omega) (by omega)).mono ?_
          rintro e w10 ⟨v10, rfl, hv10, hb10⟩
          have hs1 := isame w10 (Hv7c.out.mono hb10) (Hv8c.out.mono hb10)
          have Hv9d := Lib.hid (Hv9.out.mono hb10)
          have Hv10 := Lib.hid hv10
          have Hb10 := Lib.hid (Hb9.out.trans (hb10.mono Hb9.out.size))
          have HS1 := Lib.hid hs1
          clear hb10 hv10 hs1
          go_wp2_with fail
          refine HS1.out.mono ?_
          rintro e w11 ⟨rfl, hb11⟩
          have hs2 := isame w11 (Hv9d.out.mono hb11) (Hv10.out.mono hb11)
          have Hb11 := Lib.hid (Hb10.out.trans (hb11.mono Hb10.out.size))
          have HS2 := Lib.hid hs2
          clear hb11 hs2
          go_wp2_with fail
          refine HS2.out.mono ?_
          rintro e w12 ⟨rfl, hb12⟩
          have Hb12 := Lib.hid (Hb11.out.trans (hb12.mono Hb11.out.size))
          clear hb12
          go_wp2_with fail
          go_ret
          exact ⟨rfl, Hb12.out⟩
end Go.Proofs.Ytbonmeogmjfkeaa
