/-
  TrackSafe: the law: what came out is looked at.
-/
import Derived.Test.YtgdmcbjlfnjhjaaTrc
import Derived.Test.YtgdmcbjlfnjhjaaPce
import Derived.Deep.DeepCutAuto
import Derived.Deep.CutRange
namespace Go.Proofs.Ytgdmcbjlfnjhjaa
open Go.RowKit Wm Mm Lg
set_option linter.unusedVariables false
set_option linter.unusedSimpArgs false

set_option maxHeartbeats 4000000 in
set_option maxRecDepth 100000 in
theorem safe_loops {v0 v1 v2 v3 v4 v5 v6 v7 v8 v9 v15 v16 v17 v20 v21 v22 v23 v24 v25 v26 v27 v28 v29 v30 v31 v32 v33 v34 v35 v36 v37 v38 v39 v40 v41 v42 v43 v44 v45 v46 v47 v48 v49 v50 v51 v52 v53 v54 v55 v56 v57 v58 v59 v60 v61 v62 v63 v64 v65 v66 v67 v68 v69 v70 v71 v72 v73 v74 v75 v76 v77 v78 v79 v80 v81 v82 v83 v84 v85 v86 v87 v88 v89 v90 v91 v92 v93 v94 v95 v96 v97 v98 v99 v100 v101 v102 v103 v104 v105 v106 v107 v108 v109 v110 v111 v112 v113 v114 v115 v116 v117 v118 v119 v120 v121 v122 v123 v124 v125 v126 v127 v128 v129 v130 v131 v132 v133 v134 v135 v136 v137 v138 v139 v140 v141 v142 v143 v144 v145 v146 v147 v148 v149 v150 v151 v152 v153 v154 v155 v156 v157 : Value} (W : World) (post : Ending → World → Prop) (HP : Hid (∀ w', Below W.heap.size W w' → post (.returned (.bool true)) w'))
    (D : Nat) (ca cb cd : Value) (c : Conf) (HC : Hid (∀ w', Below W.heap.size W w' → w'.heap[D]? = some (.cells #[ca, cb, cd] 25 (0, 0)) ∧ Config3 w' ca cb cd c)) (hc1 : c.v.length ≤ 1048576) (hc2 : c.n.length ≤ 1048576)
    (G : Nat) (ae : Option Addr) (ce : Nat) (es : List EntP) (F' : Nat → Prop) (HG : Hid (∀ w', Below W.heap.size W w' → w'.heap[G]? = some (.cells (oLog 0 0 (.slice ae es.length ce)) 33 (0, 0)) ∧ Ents F' w' (.slice ae es.length ce) es)) (hk : Hid (Ok 0 es)) (hn : es.length ≤ 40)
    (ag : Option Addr) (cg : Nat) (l : List ProgP) (F : Nat → Prop) (HL : Hid (∀ w', Below W.heap.size W w' → Prgs F w' (.slice ag l.length cg) l)) (hl : l.length ≤ 1048576) (term : Int) (o r : Nat) (HI : Hid (CommitIs c l es term o r)) :
    Code.wp Try.prog ((Try.f3.body.bind (seqAt 23)).getD .skip) (bodyPost Try.prog Try.f3 post) ⟨#[v0, v1, v2, v3, v4, v5, v6, v7, v8, v9, .pointer (some ⟨D, 0, none⟩), .pointer (some ⟨G, 0, none⟩), .int .i64 (es.length : Int), .int .i64 term, .slice ag l.length cg, v15, v16, v17, .int .i64 (o : Int), .int .i64 (r : Int), v20, v21, v22, v23, v24, v25, v26, v27, v28, v29, v30, v31, v32, v33, v34, v35, v36, v37, v38, v39, v40, v41, v42, v43, v44, v45, v46, v47, v48, v49, v50, v51, v52, v53, v54, v55, v56, v57, v58, v59, v60, v61, v62, v63, v64, v65, v66, v67, v68, v69, v70, v71, v72, v73, v74, v75, v76, v77, v78, v79, v80, v81, v82, v83, v84, v85, v86, v87, v88, v89, v90, v91, v92, v93, v94, v95, v96, v97, v98, v99, v100, v101, v102, v103, v104, v105, v106, v107, v108, v109, v110, v111, v112, v113, v114, v115, v116, v117, v118, v119, v120, v121, v122, v123, v124, v125, v126, v127, v128, v129, v130, v131, v132, v133, v134, v135, v136, v137, v138, v139, v140, v141, v142, v143, v144, v145, v146, v147, v148, v149, v150, v151, v152, v153, v154, v155, v156, v157], []⟩ W := by
  conv => arg 2; whnf
  have hor : o ≤ es.length := Nat.le_trans HI.out.lo HI.out.hi
  go_wp2_with fail
  go_loopw [20] (fun c20 wr => ∃ k : Nat, c20 = .int .i64 (k : Int) ∧ o + 1 ≤ k ∧ k ≤ es.length + 1 ∧ Hid (Below W.heap.size W wr)) (fun i _ => es.length + 1 - (intOf i).toNat)
  case atStart => exact ⟨o + 1, by go_num, Nat.le_refl _, by omega, Below.refl _ _⟩
  case round =>
    obtain ⟨k, rfl, hok, hkn, HB⟩ := hrel
    obtain ⟨V0, hV0⟩ : ∃ V, V = wr := ⟨_, rfl⟩
    subst hV0
    by_cases hle : k ≤ es.length
    · have t0 : decide (k ≤ es.length) = true := decide_eq_true hle
      go_wp2_with fail
      go_loopw [21, 22] (fun c21 c22 wr => ∃ j : Nat, c22 = .int .i64 (j : Int) ∧ j ≤ l.length ∧ Hid (OwnI V0.heap.size wr c21 (haveP (l.take j) (k : Int))) ∧ Hid (Below V0.heap.size V0 wr)) (fun _ i _ => l.length - (intOf i).toNat)
      case atStart => exact ⟨0, rfl, Nat.zero_le _, World.ownsRow_nil _ _ _ _, Below.refl _ _⟩
      case round =>
        obtain ⟨j, rfl, hj, Ho, Hb⟩ := hrel
        have HB1 : Hid (Below W.heap.size W wr) := HB.out.trans (Hb.out.mono HB.out.size)
        by_cases hlt : j < l.length
        · obtain ⟨b, off, rfl, m0, m1, _⟩ := (HL.out _ HB1.out).six hlt
          have Hs := Lib.hid (haveP_snoc hlt (k : Int))
          have hlen := haveP_len (l.take j) (k : Int)
          rw [List.length_take] at hlen
          obtain ⟨p, hp⟩ := hide l[j]
          rw [hp.out] at m0 m1 Hs
          obtain ⟨L, hL⟩ := hide (haveP (l.take j) (k : Int))
          rw [hL.out] at Ho Hs hlen
          obtain ⟨z, hz⟩ := hide (decide ((k : Int) ≤ p.mtch))
          have hz1 := hz.out
          rw [hz.out] at Hs
          have hj1 : j + 1 ≤ 1048577 := by omega
          have HSz : Hid (V0.heap.size ≤ wr.heap.size) := Hb.out.size
          cases z with
          | false =>
            have Hs2 : Hid (haveP (l.take (j + 1)) (k : Int) = L) := by show _ = _; rw [Hs.out]; simp
            go_wp2_with fail
            go_roundw
            case rel => exact ⟨j + 1, by go_num, hlt, by rw [Hs2.out]; exact Ho, Hb⟩
            case measure => simp [intOf]; omega
          | true =>
            have Hs2 : Hid (haveP (l.take (j + 1)) (k : Int) = L ++ [p.node]) := by show _ = _; rw [Hs.out]; simp
            obtain ⟨a4, n4, rfl⟩ := owns_slice Ho.out
            go_wp2_with (at_builtin; refine wpList_push rfl _ _ 22 rfl V0.heap.size 3 (.int .i64 0) 1 8 Try.underlying22 info_intU rfl (by decide) _ _ _ rfl Ho.out _ rfl rfl (by intro u hu; simp at hu; subst hu; rfl) (by unfold maxLen; omega) (by omega) HSz.out ?_)
            intro v' w3 ho hg
            have Ho3 : Hid (OwnI V0.heap.size w3 v' (L ++ [p.node])) := by
              show World.ownsRow _ _ _ _ _ _ _
              rw [List.map_append, List.length_append]; exact ho
            have Hb3 : Hid (Below V0.heap.size V0 w3) := Hb.out.trans (below_own Ho.out hg (Nat.le_refl _) HSz.out)
            clear ho hg
            go_wp2_with fail
            go_roundw
            case rel => exact ⟨j + 1, by go_num, hlt, by rw [Hs2.out]; exact Ho3, Hb3⟩
            case measure => simp [intOf]; omega
        · have Hi : Hid (Ints wr u21 (haveP l (k : Int))) := by
            have := Ho.out
            rw [List.take_of_length_le (by omega)] at this
            exact Ints.of_own this
          have tj : decide (j < l.length) = false := decide_eq_false hlt
          obtain ⟨V1, hV1⟩ : ∃ V, V = wr := ⟨_, rfl⟩
          subst hV1
          have HQ := quorum_law ca cb cd u21 c _ V1 (HC.out _ HB1.out).2 Hi.out (by omega) (by omega)
          have Hokk : Hid (okC c l es term k = ((termIn es k == term) && quorumB c (haveP l (k : Int)))) := rfl
          obtain ⟨q, hq⟩ := hide (quorumB c (haveP l (k : Int)))
          rw [hq.out] at HQ Hokk
          have HQ := Lib.hid HQ
          have HTm : Hid (∀ w', Below W.heap.size W w' → Calls Try.prog 10 #[.slice ae es.length ce, .int .i64 (k : Int)] w' fun e w'' => e = .returned (.int .i64 (termIn es k)) ∧ w' = w'') := fun w' h => law_termOf _ es k F' w' (HG.out _ h).2 hle
          obtain ⟨tm, htm⟩ := hide (termIn es k)
          rw [htm.out] at HTm Hokk
          clear Ho hlt
          have x0 := (HC.out _ HB1.out).1
          have c0 : V1.cell? ⟨D, 0, none⟩ = some ca := cell_n x0 0 rfl
          have c1 : V1.cell? ⟨D, 1, none⟩ = some cb := cell_n x0 1 rfl
          have c2 : V1.cell? ⟨D, 2, none⟩ = some cd := cell_n x0 2 rfl
          clear x0
          go_wp2_with fail
          refine HQ.out.mono ?_
          rintro e V2 ⟨rfl, hb2⟩
          have HB2 := Lib.hid (HB1.out.trans (hb2.mono HB1.out.size))
          clear hb2 c0 c1 c2
          have hk42 : k + 1 ≤ 42 := by omega
          cases q with
          | false =>
            have hno : okC c l es term k = false := by rw [Hokk.out, Bool.and_false]
            have hkr : ¬ k = r := fun e => by
              subst e
              rw [HI.out.at_ (by omega)] at hno
              cases hno
            have e1 : ((k : Int) == (r : Int)) = false := beq_eq_false_iff_ne.2 (by omega)
            have e1' : (k == r) = false := beq_eq_false_iff_ne.2 hkr
            clear hno hkr
            go_wp2_with fail
            all_goals
              go_roundw
              case rel => exact ⟨k + 1, by go_num, by omega, by omega, HB2⟩
              case measure => simp [intOf]; omega
          | true =>
            have g2 : V2.cell? ⟨G, 2, none⟩ = some (.slice ae es.length ce) := cell_n (HG.out _ HB2.out).1 2 rfl
            go_wp2_with fail
            refine (HTm.out _ HB2.out).mono ?_
            rintro e V3 ⟨rfl, rfl⟩
            clear g2
            cases hz : (tm == term) with
            | false =>
              have hno : okC c l es term k = false := by rw [Hokk.out, hz, Bool.false_and]
              have hkr : ¬ k = r := fun e => by
                subst e
                rw [HI.out.at_ (by omega)] at hno
                cases hno
              have e1 : ((k : Int) == (r : Int)) = false := beq_eq_false_iff_ne.2 (by omega)
              have e1' : (k == r) = false := beq_eq_false_iff_ne.2 hkr
              clear hno hkr
              go_wp2_with fail
              all_goals
                go_roundw
                case rel => exact ⟨k + 1, by go_num, by omega, by omega, HB2⟩
                case measure => simp [intOf]; omega
            | true =>
              have hyes : okC c l es term k = true := by rw [Hokk.out, hz, Bool.true_and]
              have hkr : ¬ r < k := fun h => by
                rw [HI.out.no k h hle] at hyes
                cases hyes
              have e2 : decide (r < k) = false := decide_eq_false hkr
              have e2' : decide ((r : Int) < (k : Int)) = false := decide_eq_false (by omega)
              clear hyes hkr
              go_wp2_with fail
              all_goals
                go_roundw
                case rel => exact ⟨k + 1, by go_num, by omega, by omega, HB2⟩
                case measure => simp [intOf]; omega
    · have t0 : decide (k ≤ es.length) = false := decide_eq_false hle
      have Hp := Lib.hid (HP.out _ HB.out)
      clear hle
      go_wp2_with fail
      first | exact Hp.out | (go_ret; exact Hp.out)
set_option maxHeartbeats 4000000 in
set_option maxRecDepth 100000 in
theorem safe_commit {v0 v1 v2 v4 v5 v6 v7 v8 v9 v15 v16 v17 v18 v19 v20 v21 v22 v23 v24 v25 v26 v27 v28 v29 v30 v31 v32 v33 v34 v35 v36 v37 v38 v39 v40 v41 v42 v43 v44 v45 v46 v47 v48 v49 v50 v51 v52 v53 v54 v55 v56 v57 v58 v59 v60 v61 v62 v63 v64 v65 v66 v67 v68 v69 v70 v71 v72 v73 v74 v75 v76 v77 v78 v79 v80 v81 v82 v83 v84 v85 v86 v87 v88 v89 v90 v91 v92 v93 v94 v95 v96 v97 v98 v99 v100 v101 v102 v103 v104 v105 v106 v107 v108 v109 v110 v111 v112 v113 v114 v115 v116 v117 v118 v119 v120 v121 v122 v123 v124 v125 v126 v127 v128 v129 v130 v131 v132 v133 v134 v135 v136 v137 v138 v139 v140 v141 v142 v143 v144 v145 v146 v147 v148 v149 v150 v151 v152 v153 v154 v155 v156 v157 : Value} (W : World) (post : Ending → World → Prop) (HP : Hid (∀ w', Below W.heap.size W w' → post (.returned (.bool true)) w'))
    (D : Nat) (ca cb cd : Value) (c : Conf) (HC : Hid (∀ w', Below W.heap.size W w' → w'.heap[D]? = some (.cells #[ca, cb, cd] 25 (0, 0)) ∧ Config3 w' ca cb cd c)) (hc1 : c.v.length ≤ 1048576) (hc2 : c.n.length ≤ 1048576)
    (G : Nat) (ae : Option Addr) (ce : Nat) (es : List EntP) (F' : Nat → Prop) (HG : Hid (∀ w', Below W.heap.size W w' → w'.heap[G]? = some (.cells (oLog 0 0 (.slice ae es.length ce)) 33 (0, 0)) ∧ Ents F' w' (.slice ae es.length ce) es)) (hk : Hid (Ok 0 es)) (hn : es.length ≤ 40)
    (ag : Option Addr) (cg : Nat) (l : List ProgP) (F : Nat → Prop) (HL : Hid (∀ w', Below W.heap.size W w' → Prgs F w' (.slice ag l.length cg) l)) (hl : l.length ≤ 1048576) (term : Int) (commit : Int) :
    Code.wp Try.prog ((Try.f3.body.bind (seqAt 19)).getD .skip) (bodyPost Try.prog Try.f3 post) ⟨#[v0, v1, v2, .int .i64 commit, v4, v5, v6, v7, v8, v9, .pointer (some ⟨D, 0, none⟩), .pointer (some ⟨G, 0, none⟩), .int .i64 (es.length : Int), .int .i64 term, .slice ag l.length cg, v15, v16, v17, v18, v19, v20, v21, v22, v23, v24, v25, v26, v27, v28, v29, v30, v31, v32, v33, v34, v35, v36, v37, v38, v39, v40, v41, v42, v43, v44, v45, v46, v47, v48, v49, v50, v51, v52, v53, v54, v55, v56, v57, v58, v59, v60, v61, v62, v63, v64, v65, v66, v67, v68, v69, v70, v71, v72, v73, v74, v75, v76, v77, v78, v79, v80, v81, v82, v83, v84, v85, v86, v87, v88, v89, v90, v91, v92, v93, v94, v95, v96, v97, v98, v99, v100, v101, v102, v103, v104, v105, v106, v107, v108, v109, v110, v111, v112, v113, v114, v115, v116, v117, v118, v119, v120, v121, v122, v123, v124, v125, v126, v127, v128, v129, v130, v131, v132, v133, v134, v135, v136, v137, v138, v139, v140, v141, v142, v143, v144, v145, v146, v147, v148, v149, v150, v151, v152, v153, v154, v155, v156, v157], []⟩ W := by
  conv => arg 2; whnf
  have KP : Hid (Calls Try.prog 13 #[.int .i64 commit, .int .i64 ((es.length : Int) + 1)] W fun e w' => e = .returned (.int .i64 ((pickN commit ((es.length : Int) + 1) : Nat) : Int)) ∧ W = w') := pick_any commit ((es.length : Int) + 1) W (by omega) (by omega)
  have ho := pickN_lt (c := commit) (n := (es.length : Int) + 1) (by omega)
  obtain ⟨o, hO⟩ := hide (pickN commit ((es.length : Int) + 1))
  rw [hO.out] at KP ho
  have hoN : o ≤ es.length := by omega
  have HCm := Lib.hid (commit_law ca cb cd (.slice ag l.length cg) (.slice ae es.length ce) c l es F F' term o W (HC.out _ (Below.refl _ _)).2 hc1 hc2 (HL.out _ (Below.refl _ _)) hl (HG.out _ (Below.refl _ _)).2 hk.out (by omega) hoN)
  clear ho
  go_wp2_with fail
  refine KP.out.mono ?_
  rintro e w1 ⟨rfl, rfl⟩
  have x0 := (HC.out _ (Below.refl _ _)).1
  have c0 : W.cell? ⟨D, 0, none⟩ = some ca := cell_n x0 0 rfl
  have c1 : W.cell? ⟨D, 1, none⟩ = some cb := cell_n x0 1 rfl
  have c2 : W.cell? ⟨D, 2, none⟩ = some cd := cell_n x0 2 rfl
  clear x0
  have x1 := (HG.out _ (Below.refl _ _)).1
  have g0 : W.cell? ⟨G, 0, none⟩ = some (.int .i64 0) := cell_n x1 0 rfl
  have g1 : W.cell? ⟨G, 1, none⟩ = some (.int .i64 0) := cell_n x1 1 rfl
  have g2 : W.cell? ⟨G, 2, none⟩ = some (.slice ae es.length ce) := cell_n x1 2 rfl
  clear x1
  go_wp2_with fail
  refine HCm.out.mono ?_
  rintro e w2 ⟨r, rfl, hI, hb2⟩
  have HI := Lib.hid hI
  have e1 : decide (r < o) = false := decide_eq_false (by have := hI.lo; omega)
  have e2 : decide (es.length < r) = false := decide_eq_false (by have := hI.hi; omega)
  have HP2 : Hid (∀ w', Below w2.heap.size w2 w' → post (.returned (.bool true)) w') := fun w' h => HP.out w' (hb2.trans (h.mono hb2.size))
  have HC2 : Hid (∀ w', Below w2.heap.size w2 w' → w'.heap[D]? = some (.cells #[ca, cb, cd] 25 (0, 0)) ∧ Config3 w' ca cb cd c) := fun w' h => HC.out w' (hb2.trans (h.mono hb2.size))
  have HG2 : Hid (∀ w', Below w2.heap.size w2 w' → w'.heap[G]? = some (.cells (oLog 0 0 (.slice ae es.length ce)) 33 (0, 0)) ∧ Ents F' w' (.slice ae es.length ce) es) := fun w' h => HG.out w' (hb2.trans (h.mono hb2.size))
  have HL2 : Hid (∀ w', Below w2.heap.size w2 w' → Prgs F w' (.slice ag l.length cg) l) := fun w' h => HL.out w' (hb2.trans (h.mono hb2.size))
  clear hb2 hI c0 c1 c2 g0 g1 g2
  go_upto_if 103 with (fail)
  iterate 12 (first | done | exact safe_loops w2 post HP2 D ca cb cd c HC2 hc1 hc2 G ae ce es F' HG2 hk hn ag cg l F HL2 hl term o r HI | go_step)
end Go.Proofs.Ytgdmcbjlfnjhjaa
