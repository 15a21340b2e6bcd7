/-
  Pairs: what slices.Insert leaves where there is no room; the four roads in one.
-/
import Derived.Test.YtnmlkoidmacinaaDoorKi
namespace Go.Proofs.YtnmlkoidmacinaaDoor
open Go.RowKit Wm Mm Dg Kv
set_option linter.unusedVariables false
set_option linter.unusedSimpArgs false

/-- an append whose run is known -/
theorem wpList_append_ran {P : Program} {w : World} {ops : Array Oper} {rest : List Oper} {o : Oper} {a : Act} {Q : Exit → Act → World → Prop} (hgd : o.guard = none) (d s : Operand) (t t' : TypeId)
    (ho : o.op = .call { callee := .builtin .append, args := #[d, s], argTypes := #[t, t'] }) (v u : Value) (hd : a.eval d = v) (hs : a.eval s = u) {v' : Value} {w' : World}
    (hr : (Builtin.append_ #[t, t'] o.type #[v, u]).run P w = .ok v' w') (h : wpList P ops Q rest (a.put o.dst v') w') : wpList P ops Q (o :: rest) a w := by
  refine wpList_plain hgd fun K hK => ?_
  unfold Oper.wp execOp
  simp only [ho, resolve, invoke, builtin, Sem.run_bind, Sem.run_pure, Result.andThen_ok, List.map_toArray, List.map_cons, List.map_nil, hd, hs, hr]
  exact hK _ _ h
theorem grow_world (w : World) (g n cap k : Nat) (A0 : List Value) (hA : A0.length = k * 3) (hk : k < n) (hroom : cap < n + 1) (hn : n ≤ 64) (hcell : ∀ j v, A0[j]? = some v → w.cell? ⟨g, j, none⟩ = some v) :
    ∃ (W1 : World) (G : Nat) (cur : List Value), (∀ ty, (Builtin.append_ #[22, 3] ty #[.slice (some ⟨g, 0, none⟩) k cap, .int .i64 ((n : Int) + 1 - (k : Int))]).run Tryd.prog w = .ok (.slice (some ⟨w.heap.size, 0, none⟩) (n + 1) G) W1) ∧
      W1.heap[w.heap.size]? = some (.cells cur.toArray 25 (0, 0)) ∧ cur.length = G * 3 ∧ cur.take (k * 3) = A0 ∧ n + 1 ≤ G ∧ G ≤ maxLen ∧ Below w.heap.size w W1 ∧ W1.heap.size = w.heap.size + 1 := by
  obtain ⟨i, hi, hz0, hz1, hz2⟩ := info_parts info_pairK
  have hold : (Builtin.firstCells i.size k (.slice (some ⟨g, 0, none⟩) k cap)).run Tryd.prog w.drew = .ok A0.toArray w.drew := by
    rw [hz1]
    exact run_firstCells_some w.drew 3 k ⟨g, 0, none⟩ k cap A0 hA (fun j v hj => by rw [Addr.add_lit, Nat.zero_add]; exact hcell j v hj)
  have hkc : k + (n + 1 - k) = n + 1 := by omega
  have hkk : (n : Int) + 1 - (k : Int) = ((n + 1 - k : Nat) : Int) := by omega
  have hr := fun ty => Lib.run_append_grow_zeros (P := Tryd.prog) w 22 3 ty 25 i _ .i64 .i64 Tryd.underlying22 Tryd.underlying3 hi hz0 (some ⟨g, 0, none⟩) k cap A0 hold (n + 1 - k) (by omega) (by rw [hz1]; decide) (by omega) (by omega) (by rw [hz2]; omega) (by rw [hz2, hkc]; exact growslice_fits hroom (by omega))
  rw [hkc] at hr
  obtain ⟨G, hG⟩ : ∃ G, G = grownCap w (n + 1) cap 25 := ⟨_, rfl⟩
  rw [← hG] at hr
  have hGn : n + 1 ≤ G := by rw [hG]; exact grownCap_ge w _ _ _
  obtain ⟨ROW, hROW⟩ : ∃ ROW : Array Value, ROW = A0.toArray ++ Builtin.zeroCells (Value.agg #[.string ByteArray.empty, .string ByteArray.empty, .int .i64 0]).cells (n + 1 - k) ++ Builtin.zeroCells (Value.agg #[.string ByteArray.empty, .string ByteArray.empty, .int .i64 0]).cells (G - (n + 1)) := ⟨_, rfl⟩
  rw [← hROW] at hr
  refine ⟨w.drew.alloc (.cells ROW 25), G, ROW.toList, fun ty => by rw [hkk]; exact hr ty, ?_, ?_, ?_, hGn, by rw [hG]; exact grownCap_le_maxLen w _ _ _ (by unfold maxLen; omega), ⟨rfl, rfl, rfl, by simp, fun j hj => heap_alloc_old w.drew _ hj⟩, by simp⟩
  · rw [Array.toArray_toList]
    exact heap_alloc_new w.drew _
  · rw [hROW]
    simp only [Array.toList_append, List.length_append, zeros_len]
    have : (Value.agg #[.string ByteArray.empty, .string ByteArray.empty, .int .i64 0]).cells.size = 3 := rfl
    rw [this, hA]
    omega
  · rw [hROW]
    simp only [Array.toList_append, List.append_assoc]
    rw [← hA, List.take_left]

set_option maxHeartbeats 4000000 in
set_option maxRecDepth 100000 in
/-- no room, not at the end -/
theorem insert_grow (S g n cap k V : Nat) (l : List PairP) (x : PairP) (w : World) (h : w.ownsRow S 25 3 (.slice (some ⟨g, 0, none⟩) n cap) n (l.flatMap rowPair)) (hl : l.length = n) (hk : k < n) (hroom : cap < n + 1) (hn : n ≤ 64)
    (hV : w.heap[V]? = some (.cells (rowPair x).toArray 25 (0, 0))) (hS : S ≤ w.heap.size) :
    Calls Tryd.prog 73 #[.slice (some ⟨g, 0, none⟩) n cap, .int .i64 k, .slice (some ⟨V, 0, none⟩) 1 1] w fun e w' => ∃ v', e = .returned v' ∧ OwnP S w' v' (l.take k ++ x :: l.drop k) ∧ Below w.heap.size w w' ∧ v'.ownBlock = some w.heap.size := by
  obtain ⟨post, HP⟩ := hide (fun (e : Ending) (w' : World) => ∃ v', e = .returned v' ∧ OwnP S w' v' (l.take k ++ x :: l.drop k) ∧ Below w.heap.size w w' ∧ v'.ownBlock = some w.heap.size)
  rw [HP.out]
  obtain ⟨g', cur, e1, hSg, hg, hnc, hcm, hcur, htake⟩ := own_block (g := 0) h (by simp)
  injection e1 with e1
  injection e1 with e1
  subst e1
  have hA : ((l.take k).flatMap rowPair).length = k * 3 := by rw [flat_len rowPair rowPair_len, List.length_take]; congr 1; omega
  have hB : ((l.drop k).flatMap rowPair).length = (n - k) * 3 := by rw [flat_len rowPair rowPair_len, List.length_drop, hl]
  have hAB : l.flatMap rowPair = (l.take k).flatMap rowPair ++ (l.drop k).flatMap rowPair := by rw [← List.flatMap_append, List.take_append_drop]
  obtain ⟨A0, hA0⟩ := hide ((l.take k).flatMap rowPair)
  obtain ⟨B0, hB0⟩ := hide ((l.drop k).flatMap rowPair)
  rw [hA0.out] at hA hAB
  rw [hB0.out] at hB hAB
  have hall : ∀ j v, (A0 ++ B0)[j]? = some v → w.cell? ⟨g, j, none⟩ = some v := fun j v hj => by
    have h1 : (cur.take (n * 3))[j]? = some v := by rw [htake, hAB]; exact hj
    rw [List.getElem?_take] at h1
    simp only [World.cell?, hg]
    split at h1
    · simpa using h1
    · cases h1
  have h1B : ∀ v ∈ B0, v.oneCell' = true := fun v hv => by
    rw [← hB0.out] at hv
    obtain ⟨y, _, hy⟩ := List.mem_flatMap.1 hv
    exact rowPair_one y v hy
  have hgl := lt_of_block hg
  have hVl := lt_of_block hV
  obtain ⟨W1, G, cur1, hr1, hN1, hcl1, htk1, hG1, hG2, hbl1, hsz1⟩ := grow_world w g n cap k A0 hA hk hroom hn (fun j v hj => hall j v (by
    rw [List.getElem?_append_left (List.getElem?_eq_some_iff.1 hj).1]; exact hj))
  obtain ⟨N, hN⟩ := hide w.heap.size
  have hGV1 : W1.heap[V]? = some (.cells (rowPair x).toArray 25 (0, 0)) := (hbl1.block V hVl).trans hV
  obtain ⟨W2, hr2, hN2, hgr2, hsz2⟩ := copy_world (P := Tryd.prog) W1 22 22 25 3 w.heap.size (k * 3) (n + 1 - k) ⟨V, 0, none⟩ 1 cur1 25 1 (rowPair x) Tryd.underlying22 size_pair hN1 (by simp only [Nat.min_def]; split <;> omega) rfl
    (fun j v hj => by rw [Addr.add_lit]; simp only [World.cell?, hGV1]; simpa using hj) (by rw [rowPair_len, hcl1]; omega) (rowPair_one x)
  have hgW2 : ∀ j v, w.cell? ⟨g, j, none⟩ = some v → W2.cell? ⟨g, j, none⟩ = some v := fun j v hj => by
    have e : W2.heap[g]? = w.heap[g]? := (hgr2.block g (by omega) (fun e => by injection e with e; omega)).trans (hbl1.block g hgl)
    rw [← hj]; simp only [World.cell?, e]
  obtain ⟨W3, hr3, hN3, hgr3, hsz3⟩ := copy_world (P := Tryd.prog) W2.drew 22 22 25 3 w.heap.size ((k + 1) * 3) (n - k) ⟨g, k * 3, none⟩ (n - k) (splice cur1 (k * 3) (rowPair x)) 25 (n - k) B0 Tryd.underlying22 size_pair hN2 (by simp only [Nat.min_def]; split <;> omega) hB
    (fun j v hj => by
      rw [Addr.add_lit]
      exact hgW2 _ v (hall _ v (by rw [List.getElem?_append_right (by omega), hA, Nat.add_sub_cancel_left]; exact hj))) (by rw [splice_len (by rw [rowPair_len, hcl1]; omega), hB, hcl1]; omega) h1B
  have HE : Hid (post (.returned (.slice (some ⟨w.heap.size, 0, none⟩) (n + 1) G)) W3) := by
    show post _ _
    rw [← HP.out]
    have hlen : (l.take k ++ x :: l.drop k).length = n + 1 := by rw [List.length_append, List.length_cons, List.length_take, List.length_drop, hl]; omega
    refine ⟨_, rfl, ?_, ?_, rfl⟩
    · show W3.ownsRow _ _ _ _ _ _
      rw [hlen]
      refine own_of_block hN3 hS hG1 hG2 (by rw [splice_len (by rw [splice_len (by rw [rowPair_len, hcl1]; omega), hB, hcl1]; omega), splice_len (by rw [rowPair_len, hcl1]; omega), hcl1]) ?_
      have h1 := splice_fill (cur := cur1) (A := A0) (B := B0) (R := rowPair x) (by rw [hA, htk1]) (by rw [hA, hB, rowPair_len, hcl1]; omega)
      rw [hA, hB, rowPair_len, show k * 3 + 3 = (k + 1) * 3 from by omega, show (k + 1) * 3 + (n - k) * 3 = (n + 1) * 3 from by omega] at h1
      rw [h1, ← hA0.out, ← hB0.out, List.flatMap_append, List.flatMap_cons]
    · exact ⟨hgr3.os.trans (hgr2.os.trans hbl1.os), hgr3.tape.trans (hgr2.tape.trans hbl1.tape), hgr3.output.trans (hgr2.output.trans hbl1.output), by rw [hsz3]; show _ ≤ W2.heap.size; omega,
        fun j hj => (hgr3.block j (by show j < W2.heap.size; omega) (fun e => by injection e with e; omega)).trans ((hgr2.block j (by omega) (fun e => by injection e with e; omega)).trans (hbl1.block j hj))⟩
  rw [hN.out] at hr1 hr2 hr3 HE
  have Hr1 := Lib.hid hr1
  have Hr2 := Lib.hid hr2
  have Hr3 := Lib.hid hr3
  unfold maxLen at hG2 hcm
  clear hr1 hr2 hr3 hN1 hN2 hN3 hgr2 hgr3 hsz1 hsz2 hsz3 hbl1 htk1 hcl1 hgW2 hall h1B hA hB hAB hg hV hGV1 h hl hS hSg hcur htake hgl hVl
  have t0 : ((k : Int) == (n : Int)) = false := beq_eq_false_iff_ne.2 (by omega)
  have t1 : decide ((cap : Int) < (n : Int) + 1) = true := decide_eq_true (by omega)
  have hw1 : IntKind.i64.wrap ((k : Int) + 1) = (k : Int) + 1 := IntWalk.i64_in _ (by omega)
  have hb1 : (0 : Int) ≤ (k : Int) + 1 := by omega
  have hin : k ≤ n := by omega
  have htn : ((k : Int) + 1).toNat = k + 1 := by omega
  have hb2 : ¬ (cap = k) := by omega
  have hb3 : ¬ (G = k) := by omega
  have hb4 : ¬ (G = k + 1) := by omega
  have hb5 : (k : Int) ≤ (n : Int) + 1 := by omega
  have hb6 : (k : Int) ≤ (cap : Int) := by omega
  have hb7 : (k : Int) ≤ (n : Int) := by omega
  go_enter Tryd.func73, Tryd.ntmps73
  go_wp2_with (first
    | (with_reducible refine wpList_append_ran rfl (.tmp 34) (.tmp 39) 22 3 rfl (.slice (some ⟨g, 0, none⟩) k cap) (.int .i64 ((n : Int) + 1 - (k : Int))) rfl rfl (v' := .slice (some ⟨N, 0, none⟩) (n + 1) G) (w' := W1) (Hr1.out _) ?_)
    | (with_reducible refine wpList_copy_run rfl (.tmp 43) (.tmp 44) 22 22 rfl (.slice (some ⟨N, k * 3, none⟩) (n + 1 - k) (G - k)) (.slice (some ⟨V, 0, none⟩) 1 1) rfl rfl (v' := goInt (1 : Nat)) (w' := W2) (Hr2.out _ _ _) ?_))
  go_region_law ((refine step_copy_run ?h1 (.tmp 50) (.tmp 53) 22 22 ?h2 (.slice (some ⟨N, (k + 1) * 3, none⟩) (n - k) (G - (k + 1))) (.slice (some ⟨g, k * 3, none⟩) (n - k) (cap - k)) ?e1 ?e2 (v' := goInt (n - k : Nat)) (w' := W3) ?h3 ?h4); (case h1 => rfl); (case h2 => rfl); (case e1 => simp [Act.eval, Act.put]); (case e2 => simp [Act.eval, Act.put]); (case h3 => exact Hr3.out _ _ _))
  all_goals
    go_wp2_with fail
    exact HE.out

/-- slices.Insert of one pair: all roads -/
theorem insert_law (S n cap k V : Nat) (ao : Option Addr) (l : List PairP) (x : PairP) (w : World) (h : w.ownsRow S 25 3 (.slice ao n cap) n (l.flatMap rowPair)) (hl : l.length = n) (hk : k ≤ n) (hn : n ≤ 64)
    (hV : w.heap[V]? = some (.cells (rowPair x).toArray 25 (0, 0))) (hVo : (Value.slice ao n cap).ownBlock ≠ some V) (hS : S ≤ w.heap.size) :
    Calls Tryd.prog 73 #[.slice ao n cap, .int .i64 k, .slice (some ⟨V, 0, none⟩) 1 1] w fun e w' => ∃ v', e = .returned v' ∧ OwnP S w' v' (l.take k ++ x :: l.drop k) ∧ w.grownBy w' (Value.slice ao n cap).ownBlock ∧ (∀ g, v'.ownBlock = some g → (Value.slice ao n cap).ownBlock = some g ∨ w.heap.size ≤ g) := by
  by_cases hkn : k = n
  · subst hkn
    refine (insert_end S k cap V ao l x w h hl hn hV hS).mono ?_
    rintro e w' ⟨v', he, ho, hg, hb⟩
    refine ⟨v', he, ?_, hg, hb⟩
    rw [List.take_of_length_le (by omega), List.drop_of_length_le (by omega)]
    exact ho
  · have hlt : k < n := by omega
    have ha : ∃ g, ao = some ⟨g, 0, none⟩ := by
      rcases h.2 with ⟨hv, h0⟩ | ⟨g, c, cur, hv, _⟩
      · injection hv with e1 e2 e3; omega
      · injection hv with e1; exact ⟨g, e1⟩
    obtain ⟨g, rfl⟩ := ha
    have hVg : V ≠ g := fun e => hVo (by rw [e]; simp [Value.ownBlock])
    have hob : (Value.slice (some ⟨g, 0, none⟩) n cap).ownBlock = some g := by simp [Value.ownBlock]
    by_cases hroom : n + 1 ≤ cap
    · refine (insert_shift S g n cap k V l x w h hl hlt hroom hn hV hVg hS).mono ?_
      rintro e w' ⟨v', he, ho, hg, hb⟩
      refine ⟨v', he, ho, by rw [hob]; exact hg, fun j hj => Or.inl ?_⟩
      rw [hob, ← hb]; exact hj
    · refine (insert_grow S g n cap k V l x w h hl hlt (by omega) hn hV hS).mono ?_
      rintro e w' ⟨v', he, ho, hg, hb⟩
      refine ⟨v', he, ho, ⟨hg.os, hg.tape, hg.output, hg.size, fun j hj _ => hg.block j hj⟩, fun j hj => Or.inr ?_⟩
      rw [hb] at hj
      injection hj with hj
      omega
end Go.Proofs.YtnmlkoidmacinaaDoor
