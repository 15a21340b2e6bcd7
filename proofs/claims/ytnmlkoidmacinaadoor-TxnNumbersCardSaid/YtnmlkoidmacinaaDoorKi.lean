/-
  Pairs: what slices.Insert leaves, in place or in a new row.
-/
import Derived.Test.YtnmlkoidmacinaaDoorKc
namespace Go.Proofs.YtnmlkoidmacinaaDoor
open Go.RowKit Wm Mm Dg Kv
set_option linter.unusedVariables false
set_option linter.unusedSimpArgs false

theorem size_pair : (Tryd.prog.info? 25).map (·.size) = some 3 := by kernel_rfl
theorem sizeOf_pair (w : World) : (Go.sizeOf 25).run Tryd.prog w = .ok 3 w := by kernel_rfl
set_option maxHeartbeats 4000000 in
set_option maxRecDepth 100000 in
/-- there is room, not at the end: in place -/
theorem insert_shift (S g n cap k V : Nat) (l : List PairP) (x : PairP) (w : World) (h : w.ownsRow S 25 3 (.slice (some ⟨g, 0, none⟩) n cap) n (l.flatMap rowPair)) (hl : l.length = n) (hk : k < n) (hroom : n + 1 ≤ cap) (hn : n ≤ 64)
    (hV : w.heap[V]? = some (.cells (rowPair x).toArray 25 (0, 0))) (hVg : V ≠ g) (hS : S ≤ w.heap.size) :
    Calls Tryd.prog 73 #[.slice (some ⟨g, 0, none⟩) n cap, .int .i64 k, .slice (some ⟨V, 0, none⟩) 1 1] w fun e w' => ∃ v', e = .returned v' ∧ OwnP S w' v' (l.take k ++ x :: l.drop k) ∧ w.grownBy w' (some g) ∧ v'.ownBlock = some g := by
  obtain ⟨post, HP⟩ := hide (fun (e : Ending) (w' : World) => ∃ v', e = .returned v' ∧ OwnP S w' v' (l.take k ++ x :: l.drop k) ∧ w.grownBy w' (some g) ∧ v'.ownBlock = some g)
  rw [HP.out]
  obtain ⟨g', cur, e1, hSg, hg, hnc, hcm, hcur, htake⟩ := own_block (g := 0) h (by simp)
  injection e1 with e1
  injection e1 with e1
  subst e1
  have hA : ((l.take k).flatMap rowPair).length = k * 3 := by rw [flat_len rowPair rowPair_len, List.length_take]; congr 1; omega
  have hB : ((l.drop k).flatMap rowPair).length = (n - k) * 3 := by rw [flat_len rowPair rowPair_len, List.length_drop, hl]
  have hAB : l.flatMap rowPair = (l.take k).flatMap rowPair ++ (l.drop k).flatMap rowPair := by rw [← List.flatMap_append, List.take_append_drop]
  obtain ⟨A0, hA0⟩ := hide ((l.take k).flatMap rowPair)
  obtain ⟨B0, hB0⟩ := hide ((l.drop k).flatMap rowPair)
  rw [hA0.out] at hA hAB
  rw [hB0.out] at hB hAB
  have hcell : ∀ j v, B0[j]? = some v → cur[k * 3 + j]? = some v := fun j v hj => by
    have hjl : j < B0.length := (List.getElem?_eq_some_iff.1 hj).1
    have h1 : (cur.take (n * 3))[k * 3 + j]? = some v := by
      rw [htake, hAB, List.getElem?_append_right (by omega), hA, Nat.add_sub_cancel_left]; exact hj
    rw [List.getElem?_take] at h1
    split at h1
    · exact h1
    · cases h1
  have h1B : ∀ v ∈ B0, v.oneCell' = true := fun v hv => by
    rw [← hB0.out] at hv
    obtain ⟨y, _, hy⟩ := List.mem_flatMap.1 hv
    exact rowPair_one y v hy
  have hov : ∀ lb cb, (callFunc 87 #[.slice (some ⟨V, 0, none⟩) 1 1, .slice (some ⟨g, (k + 1) * 3, none⟩) lb cb]).run Tryd.prog w = .ok (.value (.bool false)) w := fun lb cb => by
    rw [run_callFunc_extern Tryd.func87 (by kernel_rfl) (by kernel_rfl) (by kernel_rfl) (e := Extern.SlicesOverlaps.overlaps #[22, 22] #[4]) (by kernel_rfl),
      run_overlaps_own w 22 4 25 Tryd.underlying22 3 sizeOf_pair V g ((k + 1) * 3) _ _ _ _ 1 1 lb cb hVg hV hg (by show cur.toArray.size ≠ 0; rw [List.size_toArray, hcur]; omega)]
    rfl
  have Hg := Lib.hid hg
  have HV := Lib.hid hV
  have HSg := Lib.hid hSg
  have HS := Lib.hid hS
  have Hcur := Lib.hid hcur
  have Htake := Lib.hid htake
  have HA := Lib.hid hA
  have HB := Lib.hid hB
  have HAB := Lib.hid hAB
  have Hcell := Lib.hid hcell
  have H1B := Lib.hid h1B
  have Hl := Lib.hid hl
  have HVg := Lib.hid hVg
  clear h hg hV hSg hS hcur htake hA hB hAB hcell h1B hl hVg
  have t0 : ((k : Int) == (n : Int)) = false := beq_eq_false_iff_ne.2 (by omega)
  have t1 : decide ((cap : Int) < (n : Int) + 1) = false := decide_eq_false (by omega)
  have hw1 : IntKind.i64.wrap ((k : Int) + 1) = (k : Int) + 1 := IntWalk.i64_in _ (by omega)
  have hw2 : IntKind.i64.wrap ((n : Int) + 1) = (n : Int) + 1 := IntWalk.i64_in _ (by omega)
  have hb1 : (0 : Int) ≤ (k : Int) + 1 := by omega
  have hin : k ≤ n := by omega
  have htn : ((k : Int) + 1).toNat = k + 1 := by omega
  have hb2 : ¬ (cap = k + 1) := by omega
  have hb3 : (k : Int) ≤ (n : Int) + 1 := by omega
  have hb4 : ¬ (cap = k) := by omega
  unfold maxLen at hcm
  go_enter Tryd.func73, Tryd.ntmps73
  go_wp2_with (simp only [hov])
  obtain ⟨q, hq⟩ : ∃ q, q = n - k := ⟨_, rfl⟩
  have HhfA : Hid (∀ j v, B0[j]? = some v → w.drew.cell? ((⟨g, k * 3, none⟩ : Addr).add j) = some v) := fun j v hj => by
    rw [Addr.add_lit]
    show w.cell? _ = _
    simp only [World.cell?, Hg.out]
    simpa using Hcell.out j v hj
  have Hfit1 : Hid ((k + 1) * 3 + B0.length ≤ cur.length) := by show _ ≤ _; rw [HB.out, Hcur.out]; omega
  obtain ⟨W1, hr1, hg1, hgr1, hsz1⟩ := copy_world (P := Tryd.prog) w.drew 22 22 25 3 g ((k + 1) * 3) (n - k) ⟨g, k * 3, none⟩ (n + 1 - k) cur 25 (n - k) B0 Tryd.underlying22 size_pair Hg.out (by simp only [Nat.min_def]; split <;> omega) HB.out HhfA.out Hfit1.out H1B.out
  have HV1 : Hid (W1.heap[V]? = some (.cells (rowPair x).toArray 25 (0, 0))) := (hgr1.block V (lt_of_block HV.out) (fun e => HVg.out (by injection e))).trans HV.out
  have HcV : Hid (∀ j v, (rowPair x)[j]? = some v → W1.cell? ((⟨V, 0, none⟩ : Addr).add j) = some v) := fun j v hj => by
    rw [Addr.add_lit]
    simp only [World.cell?, HV1.out]
    simpa using hj
  have Hfit2 : Hid (k * 3 + (rowPair x).length ≤ (splice cur ((k + 1) * 3) B0).length) := by
    show _ ≤ _
    rw [splice_len Hfit1.out, Hcur.out, rowPair_len]; omega
  obtain ⟨W2, hr2, hg2, hgr2, hsz2⟩ := copy_world (P := Tryd.prog) W1 22 22 25 3 g (k * 3) (n + 1 - k) ⟨V, 0, none⟩ 1 (splice cur ((k + 1) * 3) B0) 25 1 (rowPair x) Tryd.underlying22 size_pair hg1 (by simp only [Nat.min_def]; split <;> omega) rfl HcV.out Hfit2.out (rowPair_one x)
  have HE : Hid (post (.returned (.slice (some ⟨g, 0, none⟩) (n + 1) cap)) W2) := by
    show post _ _
    rw [← HP.out]
    have hlen : (l.take k ++ x :: l.drop k).length = n + 1 := by rw [List.length_append, List.length_cons, List.length_take, List.length_drop, Hl.out]; omega
    refine ⟨_, rfl, ?_, grown_trans (grown_trans (grown_drewK w _) hgr1) hgr2, rfl⟩
    show W2.ownsRow _ _ _ _ _ _
    rw [hlen]
    refine own_of_block hg2 HSg.out hroom (by unfold maxLen; exact hcm) (by rw [splice_len Hfit2.out, splice_len Hfit1.out, Hcur.out]) ?_
    have h1 := splice_insert (cur := cur) (A := A0) (B := B0) (R := rowPair x) (by rw [HA.out, HB.out, ← Nat.add_mul, show k + (n - k) = n from by omega, Htake.out, HAB.out]) (by rw [HA.out, HB.out, rowPair_len, Hcur.out]; omega)
    rw [HA.out, HB.out, rowPair_len, show k * 3 + 3 = (k + 1) * 3 from by omega, show (k + 1) * 3 + (n - k) * 3 = (n + 1) * 3 from by omega] at h1
    rw [h1, ← hA0.out, ← hB0.out, List.flatMap_append, List.flatMap_cons]
  have Hr1 := Lib.hid hr1
  have Hr2 := Lib.hid hr2
  clear hr1 hr2 hg1 hg2 hgr1 hgr2 hsz1 hsz2 hq
  go_region_law ((refine step_copy_run ?h1 (.tmp 73) (.tmp 76) 22 22 ?h2 (.slice (some ⟨g, (k + 1) * 3, none⟩) (n - k) (cap - (k + 1))) (.slice (some ⟨g, k * 3, none⟩) (n + 1 - k) (cap - k)) ?e1 ?e2 (v' := goInt (n - k : Nat)) (w' := W1) ?h3 ?h4); (case h1 => rfl); (case h2 => rfl); (case e1 => simp [Act.eval, Act.put]); (case e2 => simp [Act.eval, Act.put]); (case h3 => exact Hr1.out _ _ _))
  all_goals
    go_wp2_with (with_reducible refine wpList_copy_run rfl (.tmp 80) (.tmp 81) 22 22 rfl (.slice (some ⟨g, k * 3, none⟩) (n + 1 - k) (cap - k)) (.slice (some ⟨V, 0, none⟩) 1 1) rfl rfl (v' := goInt (1 : Nat)) (w' := W2) (Hr2.out _ _ _) ?_)
    exact HE.out

set_option maxHeartbeats 4000000 in
set_option maxRecDepth 100000 in
/-- at the end -/
theorem insert_end (S n cap V : Nat) (ao : Option Addr) (l : List PairP) (x : PairP) (w : World) (h : w.ownsRow S 25 3 (.slice ao n cap) n (l.flatMap rowPair)) (hl : l.length = n) (hn : n ≤ 64)
    (hV : w.heap[V]? = some (.cells (rowPair x).toArray 25 (0, 0))) (hS : S ≤ w.heap.size) :
    Calls Tryd.prog 73 #[.slice ao n cap, .int .i64 n, .slice (some ⟨V, 0, none⟩) 1 1] w fun e w' => ∃ v', e = .returned v' ∧ OwnP S w' v' (l ++ [x]) ∧ w.grownBy w' (Value.slice ao n cap).ownBlock ∧ (∀ g, v'.ownBlock = some g → (Value.slice ao n cap).ownBlock = some g ∨ w.heap.size ≤ g) := by
  obtain ⟨post, HP⟩ := hide (fun (e : Ending) (w' : World) => ∃ v', e = .returned v' ∧ OwnP S w' v' (l ++ [x]) ∧ w.grownBy w' (Value.slice ao n cap).ownBlock ∧ (∀ g, v'.ownBlock = some g → (Value.slice ao n cap).ownBlock = some g ∨ w.heap.size ≤ g))
  rw [HP.out]
  have Ho := Lib.hid h
  have Hl := Lib.hid hl
  have HS := Lib.hid hS
  have hnc : n ≤ cap ∧ cap ≤ 9223372036854775807 := by
    rcases h.2 with ⟨hv, h0⟩ | ⟨g, c, cur, hv, _, _, hc, hm, _⟩
    · injection hv with e1 e2 e3; subst e2; subst e3; omega
    · injection hv with e1 e2 e3; subst e3; unfold maxLen at hm; omega
  have Hs : Hid (Src Tryd.prog 3 22 (.slice (some ⟨V, 0, none⟩) 1 1) 1 (rowPair x) w) := Src.ofSlice w Tryd.underlying22 ⟨V, 0, none⟩ 1 1 (rowPair x) (by rw [rowPair_len]) (fun j u hj => by rw [Addr.add_lit]; simp only [World.cell?, hV]; simpa using hj) (rowPair_one x)
  clear h hl hS hV
  obtain ⟨hc1, hc2⟩ := hnc
  go_enter Tryd.func73, Tryd.ntmps73
  cases ao with
  | none =>
    have h0 : n = 0 ∧ cap = 0 := by
      rcases Ho.out.2 with ⟨hv, h0⟩ | ⟨g, c, cur, hv, _⟩
      · injection hv with e1 e2 e3; exact ⟨e2, e3⟩
      · injection hv with e1; cases e1
    obtain ⟨rfl, rfl⟩ := h0
    rw [show ((0 : Nat) : Int) = 0 from rfl]
    go_wp2_with (at_builtin; refine wpList_append_at rfl _ _ 22 22 rfl S 25 _ 3 40 Tryd.underlying22 info_pairK rfl _ _ _ rfl Ho.out _ 1 _ rfl Hs.out (by unfold maxLen; omega) (by omega) HS.out ?_)
    intro v' w2 ho hg hb
    have HE : Hid (post (.returned v') w2) := by
      show post _ _
      rw [← HP.out]
      refine ⟨_, rfl, ?_, hg, hb⟩
      show w2.ownsRow _ _ _ _ _ _
      rw [List.length_append, Hl.out, List.flatMap_append]
      simpa using ho
    clear ho hg hb
    go_wp2_with fail
    exact HE.out
  | some a =>
    go_wp2_with (at_builtin; refine wpList_append_at rfl _ _ 22 22 rfl S 25 _ 3 40 Tryd.underlying22 info_pairK rfl _ _ _ rfl Ho.out _ 1 _ rfl Hs.out (by unfold maxLen; omega) (by omega) HS.out ?_)
    all_goals
      intro v' w2 ho hg hb
      have HE : Hid (post (.returned v') w2) := by
        show post _ _
        rw [← HP.out]
        refine ⟨_, rfl, ?_, hg, hb⟩
        show w2.ownsRow _ _ _ _ _ _
        rw [List.length_append, Hl.out, List.flatMap_append]
        simpa using ho
      clear ho hg hb
      go_wp2_with fail
      exact HE.out
end Go.Proofs.YtnmlkoidmacinaaDoor
