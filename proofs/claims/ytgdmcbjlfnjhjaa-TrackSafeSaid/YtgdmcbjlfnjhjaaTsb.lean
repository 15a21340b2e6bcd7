/-
  TrackSafe: the law: what the leader knows of all members.
-/
import Derived.Test.YtgdmcbjlfnjhjaaTsa
import Derived.Deep.DeepCutAuto
import Derived.Deep.CutRange
import Derived.Deep.RegionLaw
namespace Go.Proofs.Ytgdmcbjlfnjhjaa
open Go.RowKit Wm Mm Lg
set_option linter.unusedVariables false
set_option linter.unusedSimpArgs false

theorem own_blkA {S size n : Nat} {e : TypeId} {w : World} {v : Value} {xs : List Value} (h : w.ownsRow S e size v n xs) : ∀ k, v.ownBlock = some k → S ≤ k ∧ k < w.heap.size := by
  intro k hk
  rcases h.2 with ⟨rfl, _⟩ | ⟨g, cap, cur, rfl, hb, hh, _⟩
  · cases hk
  · cases hk
    exact ⟨hb, lt_of_block hh⟩
theorem setFrom_grownC (b : Nat) : ∀ (vs : List Value) (w : World) (i : Nat), w.grownBy (setFrom w b i vs) (some b)
  | [], w, _ => grown_same w _
  | v :: vs, w, i => grown_trans (grown_setCell w ⟨b, i, none⟩ v) (setFrom_grownC b vs _ (i + 1))
theorem info_prog : (Try.prog.info? 27).map (fun i => (i.zero, i.size, i.bytes)) = some (some (.agg #[.int .i64 0, .int .i64 0, .int .i64 0, .int .i64 0, .bool false, .int .i64 0]), 6, 48) := by kernel_rfl
set_option maxHeartbeats 4000000 in
set_option maxRecDepth 100000 in
theorem safe_fill {v0 v1 v4 v5 v6 v7 v8 v9 v16 v17 v18 v19 v20 v21 v22 v23 v24 v25 v26 v27 v28 v29 v30 v31 v32 v33 v34 v35 v36 v37 v38 v39 v40 v41 v42 v43 v44 v45 v46 v47 v48 v49 v50 v51 v52 v53 v54 v55 v56 v57 v58 v59 v60 v61 v62 v63 v64 v65 v66 v67 v68 v69 v70 v71 v72 v73 v74 v75 v76 v77 v78 v79 v80 v81 v82 v83 v84 v85 v86 v87 v88 v89 v90 v91 v92 v93 v94 v95 v96 v97 v98 v99 v100 v101 v102 v103 v104 v105 v106 v107 v108 v109 v110 v111 v112 v113 v114 v115 v116 v117 v118 v119 v120 v121 v122 v123 v124 v125 v126 v127 v128 v129 v130 v131 v132 v133 v134 v135 v136 v137 v138 v139 v140 v141 v142 v143 v144 v145 v146 v147 v148 v149 v150 v151 v152 v153 v154 v155 v156 v157 : Value} (W : World) (post : Ending → World → Prop) (HP : Hid (∀ w', Below W.heap.size W w' → post (.returned (.bool true)) w'))
    (D : Nat) (ca cb cd : Value) (c : Conf) (HC : Hid (∀ w', Below W.heap.size W w' → w'.heap[D]? = some (.cells #[ca, cb, cd] 25 (0, 0)) ∧ Config3 w' ca cb cd c)) (hc1 : c.v.length ≤ 1048576) (hc2 : c.n.length ≤ 1048576)
    (G : Nat) (ae : Option Addr) (ce : Nat) (es : List EntP) (F' : Nat → Prop) (HG : Hid (∀ w', Below W.heap.size W w' → w'.heap[G]? = some (.cells (oLog 0 0 (.slice ae es.length ce)) 33 (0, 0)) ∧ Ents F' w' (.slice ae es.length ce) es)) (hk : Hid (Ok 0 es)) (hn : es.length ≤ 40)
    (term commit : Int) (am : Option Addr) (cm : Nat) (ms : List Int) (HM : Hid (∀ w', Below W.heap.size W w' → Ints w' (.slice am ms.length cm) ms)) (a15 : Option Addr) (c15 : Nat) (m : List Int) (Hmm : Hid (∀ w', Below W.heap.size W w' → Ints w' (.slice a15 m.length c15) m)) (hml : m.length ≤ 1048576) :
    Code.wp Try.prog ((Try.f3.body.bind (seqAt 12)).getD .skip) (bodyPost Try.prog Try.f3 post) ⟨#[v0, v1, .slice am ms.length cm, .int .i64 commit, v4, v5, v6, v7, v8, v9, .pointer (some ⟨D, 0, none⟩), .pointer (some ⟨G, 0, none⟩), .int .i64 (es.length : Int), .int .i64 term, .slice none 0 0, .slice a15 m.length c15, v16, v17, v18, v19, v20, v21, v22, v23, v24, v25, v26, v27, v28, v29, v30, v31, v32, v33, v34, v35, v36, v37, v38, v39, v40, v41, v42, v43, v44, v45, v46, v47, v48, v49, v50, v51, v52, v53, v54, v55, v56, v57, v58, v59, v60, v61, v62, v63, v64, v65, v66, v67, v68, v69, v70, v71, v72, v73, v74, v75, v76, v77, v78, v79, v80, v81, v82, v83, v84, v85, v86, v87, v88, v89, v90, v91, v92, v93, v94, v95, v96, v97, v98, v99, v100, v101, v102, v103, v104, v105, v106, v107, v108, v109, v110, v111, v112, v113, v114, v115, v116, v117, v118, v119, v120, v121, v122, v123, v124, v125, v126, v127, v128, v129, v130, v131, v132, v133, v134, v135, v136, v137, v138, v139, v140, v141, v142, v143, v144, v145, v146, v147, v148, v149, v150, v151, v152, v153, v154, v155, v156, v157], []⟩ W := by
  conv => arg 2; whnf
  go_wp2_with fail
  go_loopw [14, 16] (fun c14 c16 wr => ∃ (k : Nat) (cur : List ProgP), c16 = .int .i64 (k : Int) ∧ k ≤ m.length ∧ Hid (cur.length = k) ∧ Hid (wr.ownsRow W.heap.size 27 6 c14 k (cur.flatMap rowG)) ∧ Hid (Below W.heap.size W wr)) (fun _ i _ => m.length - (intOf i).toNat)
  case atStart => exact ⟨0, [], rfl, Nat.zero_le _, rfl, World.ownsRow_nil _ _ _ _, Below.refl _ _⟩
  case round =>
    rename_i K1 hK1
    obtain ⟨k, cur, rfl, hkm, Hcl, Ho, HB⟩ := hrel
    by_cases hlt : k < m.length
    · obtain ⟨_, _, he15, hc15, _⟩ := Hmm.out _ HB.out
      injection he15 with e1 e2 e3
      subst e1; subst e3
      obtain ⟨bm, om, rfl, hcm⟩ := hc15 (fun h => by rw [h] at hlt; simp at hlt)
      have cm0 := hcm k m[k] (by simp [hlt])
      obtain ⟨x, hx⟩ := hide m[k]
      rw [hx.out] at cm0
      obtain ⟨q0, hq0⟩ : ∃ q : ProgP, Hid (q = ⟨x, 0, (es.length : Int) + 1, 1, false, 0⟩) := ⟨_, rfl⟩
      obtain ⟨V, hV⟩ := hide (wr.alloc (.cells #[.int .i64 x, .int .i64 0, .int .i64 ((es.length : Int) + 1), .int .i64 1, .bool false, .int .i64 0] 27))
      obtain ⟨C, hC⟩ := hide wr.heap.size
      have hxV : V.heap[C]? = some (.cells (arrG q0) 27 (0, 0)) := by rw [← hV.out, ← hC.out, hq0.out]; exact hp_at _ _ rfl
      have HbV : Hid (Below W.heap.size W V) := by show Below _ _ _; rw [← hV.out]; exact HB.out.alloc HB.out.size _
      have HoV : Hid (V.ownsRow W.heap.size 27 6 u14 k (cur.flatMap rowG)) := by show World.ownsRow _ _ _ _ _ _ _; rw [← hV.out]; exact Ho.out.alloc _
      have HxV := Lib.hid hxV
      have HgC : Hid (∀ g, u14.ownBlock = some g → g ≠ C) := by
        show ∀ g, _ → _
        intro g hg
        have := (own_blkA Ho.out g hg).2
        rw [← hC.out]; omega
      have hk1 : k + 1 ≤ 1048577 := by omega
      clear hcm hc15 hxV
      go_upto_region 16 with fail
      rw [hV.out, hC.out]
      clear cm0
      by_cases hms : k < ms.length
      · have t1 : decide (k < ms.length) = true := decide_eq_true hms
        have H0 : Hid (Below W.heap.size W V.drew) := HbV.out.drew
        have Hx0 : Hid (V.drew.heap[C]? = some (.cells (arrG q0) 27 (0, 0))) := HxV.out
        obtain ⟨_, _, hem, hcm2, _⟩ := HM.out _ H0.out
        injection hem with e1 e2 e3
        subst e1; subst e3
        obtain ⟨bs, os, rfl, hcs⟩ := hcm2 (fun h => by rw [h] at hms; simp at hms)
        have cs0 := hcs k ms[k] (by simp [hms])
        obtain ⟨y, hy⟩ := hide ms[k]
        rw [hy.out] at cs0
        have b0 := cell_n Hx0.out 0 (v := .int .i64 q0.node) rfl
        have b1 := cell_n Hx0.out 1 (v := .int .i64 q0.mtch) rfl
        have b2 := cell_n Hx0.out 2 (v := .int .i64 q0.nxt) rfl
        have b3 := cell_n Hx0.out 3 (v := .int .i64 q0.state) rfl
        have b4 := cell_n Hx0.out 4 (v := .bool q0.active) rfl
        have b5 := cell_n Hx0.out 5 (v := .int .i64 q0.heard) rfl
        have i1 : decide ((k : Int) < (ms.length : Int)) = true := decide_eq_true (by omega)
        have wr1 : IntKind.i64.wrap ((es.length : Int) + 1) = (es.length : Int) + 1 := IntWalk.i64_in _ (by omega)
        have KP : Hid (∀ w', Calls Try.prog 13 #[.int .i64 y, .int .i64 ((es.length : Int) + 1)] w' fun e w'' => e = .returned (.int .i64 ((pickN y ((es.length : Int) + 1) : Nat) : Int)) ∧ w' = w'') := fun w' => pick_any y ((es.length : Int) + 1) w' (by omega) (by omega)
        have KA : Hid (∀ i w', Calls Try.prog 12 #[.agg (arrG q0), .int .i64 i] w' fun e w'' => ∃ q, e = .returned (.agg (arrG q)) ∧ Below w'.heap.size w' w'') := fun i w' => ack_law q0 i w'
        clear hcs hcm2
        go_upto_region 17 with fail
        try dsimp only
        go_region_law (first
          | (go_simp; go_at_call 13; (with_reducible refine (KP.out _).mono ?_); rintro e w5 ⟨rfl, rfl⟩)
          | (go_simp; go_at_call 12; (with_reducible refine (KA.out _ _).mono ?_); rintro e w6 ⟨q, rfl, hb6⟩; have Hx6 : Hid (w6.heap[C]? = some (.cells (arrG q0) 27 (0, 0))) := (hb6.block C (lt_of_block Hx0.out)).trans Hx0.out; have H6 := Lib.hid (H0.out.trans (hb6.mono H0.out.size)); have Hb6 := Lib.hid hb6; have p0 := cell_n Hx6.out 0 (v := .int .i64 q0.node) rfl; have p1 := cell_n Hx6.out 1 (v := .int .i64 q0.mtch) rfl; have p2 := cell_n Hx6.out 2 (v := .int .i64 q0.nxt) rfl; have p3 := cell_n Hx6.out 3 (v := .int .i64 q0.state) rfl; have p4 := cell_n Hx6.out 4 (v := .bool q0.active) rfl; have p5 := cell_n Hx6.out 5 (v := .int .i64 q0.heard) rfl; have f0 := free_n Hx6.out 0; have f1 := free_n Hx6.out 1; have f2 := free_n Hx6.out 2; have f3 := free_n Hx6.out 3; have f4 := free_n Hx6.out 4; have f5 := free_n Hx6.out 5; clear hb6))
        all_goals
          have Ho6 : Hid (w6.ownsRow W.heap.size 27 6 u14 k (cur.flatMap rowG)) := own_below (w := V.drew) HoV.out Hb6.out
          obtain ⟨W9, hW9⟩ := hide ((((((w6.setCell ⟨C, 0, none⟩ (.int .i64 q.node)).setCell ⟨C, 1, none⟩ (.int .i64 q.mtch)).setCell ⟨C, 2, none⟩ (.int .i64 q.nxt)).setCell ⟨C, 3, none⟩ (.int .i64 q.state)).setCell ⟨C, 4, none⟩ (.bool q.active)).setCell ⟨C, 5, none⟩ (.int .i64 q.heard))
          have hx9 : Hid (W9.heap[C]? = some (.cells (arrG q) 27 (0, 0))) := by
            show _ = _
            rw [← hW9.out]
            exact setAll_at (xs := rowG q0) Hx6.out (rowG q) rfl
          have HG9 : w6.grownBy W9 (some C) := by rw [← hW9.out]; exact setFrom_grownC C (rowG q) w6 0
          have Ho9' : Hid (W9.ownsRow W.heap.size 27 6 u14 k (cur.flatMap rowG)) := Ho6.out.kept HG9 (Or.inr (fun e => HgC.out _ e rfl))
          have HCW : W.heap.size ≤ C := by rw [← hC.out]; exact HB.out.size
          have H9 : Hid (Below W.heap.size W W9) := H6.out.trans (grown_below HG9 HCW H6.out.size)
          clear HG9 HCW b0 b1 b2 b3 b4 b5 p0 p1 p2 p3 p4 p5 f0 f1 f2 f3 f4 f5 cs0
          try dsimp only
          go_upto_region 18 with fail
          rw [hW9.out]
          have b0 := cell_n hx9.out 0 (v := .int .i64 q.node) rfl
          have b1 := cell_n hx9.out 1 (v := .int .i64 q.mtch) rfl
          have b2 := cell_n hx9.out 2 (v := .int .i64 q.nxt) rfl
          have b3 := cell_n hx9.out 3 (v := .int .i64 q.state) rfl
          have b4 := cell_n hx9.out 4 (v := .bool q.active) rfl
          have b5 := cell_n hx9.out 5 (v := .int .i64 q.heard) rfl
          obtain ⟨a4, n4, rfl⟩ := owns_slice Ho9'.out
          have HSz : Hid (W.heap.size ≤ W9.heap.size) := H9.out.size
          go_wp2_with (at_builtin; refine wpList_push rfl _ _ 28 rfl W.heap.size 27 (.agg #[.int .i64 0, .int .i64 0, .int .i64 0, .int .i64 0, .bool false, .int .i64 0]) 6 48 Try.underlying28 info_prog rfl (by decide) _ _ _ rfl Ho9'.out _ rfl rfl (rowG_one q) (by unfold maxLen; omega) (by omega) HSz.out ?_)
          intro v' w9 ho hg
          have Ho9 : Hid (w9.ownsRow W.heap.size 27 6 v' (k + 1) ((cur ++ [q]).flatMap rowG)) := by
            show World.ownsRow _ _ _ _ _ _ _
            rw [List.flatMap_append]; exact ho
          have Hb9 : Hid (Below W.heap.size W w9) := H9.out.trans (below_own Ho9'.out hg (Nat.le_refl _) HSz.out)
          have Hl9 : Hid ((cur ++ [q]).length = k + 1) := by show _ = _; rw [List.length_append, Hcl.out]; rfl
          clear ho hg b0 b1 b2 b3 b4 b5
          go_wp2_with fail
          go_roundw
          case rel => exact ⟨k + 1, cur ++ [q], by go_num, hlt, Hl9, Ho9, Hb9⟩
          case measure => simp [intOf]; omega
      · have t1 : decide (k < ms.length) = false := decide_eq_false hms
        clear hms
        have b0 := cell_n HxV.out 0 (v := .int .i64 q0.node) rfl
        have b1 := cell_n HxV.out 1 (v := .int .i64 q0.mtch) rfl
        have b2 := cell_n HxV.out 2 (v := .int .i64 q0.nxt) rfl
        have b3 := cell_n HxV.out 3 (v := .int .i64 q0.state) rfl
        have b4 := cell_n HxV.out 4 (v := .bool q0.active) rfl
        have b5 := cell_n HxV.out 5 (v := .int .i64 q0.heard) rfl
        obtain ⟨a4, n4, rfl⟩ := owns_slice HoV.out
        have HSz : Hid (W.heap.size ≤ V.heap.size) := HbV.out.size
        go_wp2_with (at_builtin; refine wpList_push rfl _ _ 28 rfl W.heap.size 27 (.agg #[.int .i64 0, .int .i64 0, .int .i64 0, .int .i64 0, .bool false, .int .i64 0]) 6 48 Try.underlying28 info_prog rfl (by decide) _ _ _ rfl HoV.out _ rfl rfl (rowG_one q0) (by unfold maxLen; omega) (by omega) HSz.out ?_)
        intro v' w9 ho hg
        have Ho9 : Hid (w9.ownsRow W.heap.size 27 6 v' (k + 1) ((cur ++ [q0]).flatMap rowG)) := by
          show World.ownsRow _ _ _ _ _ _ _
          rw [List.flatMap_append]; exact ho
        have Hb9 : Hid (Below W.heap.size W w9) := HbV.out.trans (below_own HoV.out hg (Nat.le_refl _) HSz.out)
        have Hl9 : Hid ((cur ++ [q0]).length = k + 1) := by show _ = _; rw [List.length_append, Hcl.out]; rfl
        clear ho hg b0 b1 b2 b3 b4 b5
        go_wp2_with fail
        go_roundw
        case rel => exact ⟨k + 1, cur ++ [q0], by go_num, hlt, Hl9, Ho9, Hb9⟩
        case measure => simp [intOf]; omega
    · have t0 : decide (k < m.length) = false := decide_eq_false hlt
      obtain ⟨a14, c14, rfl⟩ := owns_slice Ho.out
      have hkk : cur.length = k := Hcl.out
      subst hkk
      have HP2 : Hid (∀ w', Below wr.heap.size wr w' → post (.returned (.bool true)) w') := fun w' h => HP.out w' (HB.out.trans (h.mono HB.out.size))
      have HC2 : Hid (∀ w', Below wr.heap.size wr w' → w'.heap[D]? = some (.cells #[ca, cb, cd] 25 (0, 0)) ∧ Config3 w' ca cb cd c) := fun w' h => HC.out w' (HB.out.trans (h.mono HB.out.size))
      have HG2 : Hid (∀ w', Below wr.heap.size wr w' → w'.heap[G]? = some (.cells (oLog 0 0 (.slice ae es.length ce)) 33 (0, 0)) ∧ Ents F' w' (.slice ae es.length ce) es) := fun w' h => HG.out w' (HB.out.trans (h.mono HB.out.size))
      have HL1 : Prgs (fun _ => True) wr (.slice a14 cur.length c14) cur := Sl.own rowG rowG_len Ho.out (fun _ _ => rfl) (fun _ _ _ _ => trivial)
      have HL2 : Hid (∀ w', Below wr.heap.size wr w' → Prgs (fun _ => True) w' (.slice a14 cur.length c14) cur) := fun w' h => HL1.frame (Plain.good _) (Agree.below h)
      have hl2 : cur.length ≤ 1048576 := by omega
      clear hlt HL1
      go_upto_if 59 with (fail)
      iterate 12 (first | done | (refine hK1 _ _ ?_; exact safe_commit wr post HP2 D ca cb cd c HC2 hc1 hc2 G ae ce es F' HG2 hk hn a14 c14 cur _ HL2 hl2 term commit) | exact safe_commit wr post HP2 D ca cb cd c HC2 hc1 hc2 G ae ce es F' HG2 hk hn a14 c14 cur _ HL2 hl2 term commit | go_step)
end Go.Proofs.Ytgdmcbjlfnjhjaa
