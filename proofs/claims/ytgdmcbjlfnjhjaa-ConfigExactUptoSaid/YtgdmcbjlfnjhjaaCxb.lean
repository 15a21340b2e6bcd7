/-
  ConfigExact: the law: validity, quorums, who is lost; all members.
-/
import Derived.Test.YtgdmcbjlfnjhjaaCxa
import Derived.Deep.DeepCutAuto
import Derived.Deep.CutRange
namespace Go.Proofs.Ytgdmcbjlfnjhjaa
open Go.RowKit Wm Mm
set_option linter.unusedVariables false
set_option linter.unusedSimpArgs false

set_option maxHeartbeats 4000000 in
set_option maxRecDepth 100000 in
theorem exact_same {v0 v1 v4 v5 v6 v9 v10 v11 v14 v20 v25 v26 v27 v28 v29 v30 v31 v32 v33 v34 v35 v36 v37 v38 v39 v40 v41 v42 v43 v44 v45 v46 v47 v48 v49 v50 v51 v52 v53 v54 v55 v56 v57 v58 v59 v60 v61 v62 v63 v64 v65 v66 v67 v68 v69 v70 v71 v72 v73 v74 v75 v76 v77 v78 v79 v80 v81 v82 v83 v84 v85 v86 v87 v88 v89 v90 v91 v92 v93 v94 v95 v96 v97 v98 v99 v100 v101 v102 v103 v104 v105 v106 v107 v108 v109 v110 v111 v112 v113 v114 v115 v116 v117 v118 v119 v120 v121 v122 v123 v124 v125 v126 v127 v128 v129 v130 v131 v132 v133 v134 v135 v136 v137 v138 v139 v140 v141 v142 v143 v144 v145 v146 v147 v148 v149 v150 v151 v152 v153 v154 v155 v156 v157 v158 v159 v160 v161 v162 v163 v164 v165 v166 v167 v168 v169 v170 v171 v172 v173 v174 v175 v176 v177 v178 v179 v180 v181 v182 v183 v184 v185 v186 v187 v188 v189 v190 : Value} (B D S : Nat) (F : Nat → Prop) (a0 b0 d0 xa xb xd ov av hx hav : Value) (c : Conf) (ops : List OpP) (hv : List Int) (hc1 : c.v.length ≤ 1048576) (hc2 : c.n.length ≤ 1048576) (hc3 : c.l.length ≤ 1048576) (hvl : hv.length ≤ 1048576) (hol : ops.length ≤ 1048576)
    (S1 : Nat) (W : World) (hS1 : S1 ≤ W.heap.size) (post : Ending → World → Prop) (HP : Hid (∀ w', Below S1 W w' → post (.returned (.bool true)) w')) (HX : Hid (∀ w', Below S1 W w' → Cfx B D S F a0 b0 d0 xa xb xd ov av hx hav c ops hv w'))
    (E G : Nat) (ea eb ed ga gb gd mv : Value) (hE : Hid (W.heap[E]? = some (.cells #[ea, eb, ed] 25 (0, 0)))) (hG : Hid (W.heap[G]? = some (.cells #[ga, gb, gd] 25 (0, 0))))
    (WE : Hid (WI S1 W ea ∧ WI S1 W eb ∧ WI S1 W ed)) (WG : Hid (WI S1 W ga ∧ WI S1 W gb ∧ WI S1 W gd)) (WM : Hid (WI S1 W mv))
    (NE : Hid (∀ v, v = ea ∨ v = eb ∨ v = ed ∨ v = ga ∨ v = gb ∨ v = gd ∨ v = mv → ∀ p n c, v = Value.slice p n c → n ≤ 1099511627776)) (e1 e2 : Int) (z3 : Bool) (hz3 : validB c = true → z3 = true) :
    Code.wp Try.prog ((Try.f6.body.bind (seqAt 16)).getD .skip) (bodyPost Try.prog Try.f6 post) ⟨#[v0, v1, hav, .pointer (some ⟨B, 0, none⟩), v4, v5, v6, .pointer (some ⟨D, 0, none⟩), hx, v9, v10, v11, .pointer (some ⟨E, 0, none⟩), .int .i64 e1, v14, .int .i64 e1, .bool true, .bool true, .pointer (some ⟨G, 0, none⟩), .int .i64 e2, v20, .int .i64 e2, .bool true, mv, .bool z3, v25, v26, v27, v28, v29, v30, v31, v32, v33, v34, v35, v36, v37, v38, v39, v40, v41, v42, v43, v44, v45, v46, v47, v48, v49, v50, v51, v52, v53, v54, v55, v56, v57, v58, v59, v60, v61, v62, v63, v64, v65, v66, v67, v68, v69, v70, v71, v72, v73, v74, v75, v76, v77, v78, v79, v80, v81, v82, v83, v84, v85, v86, v87, v88, v89, v90, v91, v92, v93, v94, v95, v96, v97, v98, v99, v100, v101, v102, v103, v104, v105, v106, v107, v108, v109, v110, v111, v112, v113, v114, v115, v116, v117, v118, v119, v120, v121, v122, v123, v124, v125, v126, v127, v128, v129, v130, v131, v132, v133, v134, v135, v136, v137, v138, v139, v140, v141, v142, v143, v144, v145, v146, v147, v148, v149, v150, v151, v152, v153, v154, v155, v156, v157, v158, v159, v160, v161, v162, v163, v164, v165, v166, v167, v168, v169, v170, v171, v172, v173, v174, v175, v176, v177, v178, v179, v180, v181, v182, v183, v184, v185, v186, v187, v188, v189, v190], []⟩ W := by
  conv => arg 2; whnf
  have HbV : Hid (Below W.heap.size W W) := Below.refl _ _
  obtain ⟨v, hvv⟩ : ∃ v, Hid (validB c = v) := ⟨_, rfl⟩
  have L1 : Hid (∀ w', Cfx B D S F a0 b0 d0 xa xb xd ov av hx hav c ops hv w' → Calls Try.prog 15 #[.agg #[xa, xb, xd]] w' fun e w'' => e = .returned (.bool v) ∧ Below w'.heap.size w' w'') := fun w' h => by have := config_valid xa xb xd c w' h.cd.conf; rwa [hvv.out] at this
  have L2 : Hid (∀ w', Cfx B D S F a0 b0 d0 xa xb xd ov av hx hav c ops hv w' → Calls Try.prog 22 #[.agg #[a0, b0, d0]] w' fun e w'' => e = .returned (.bool v) ∧ Below w'.heap.size w' w'') := fun w' h => by have := ref_isConfig a0 b0 d0 c w' h.cb; rwa [hvv.out] at this
  go_upto_region 16 with fail
  try dsimp only
  go_cut [25] from 93 to 97 (fun cc wc => cc = .bool true ∧ Hid (Below W.heap.size W wc))
  case first =>
    have H0 : Hid (Below W.heap.size W W.drew) := HbV.out.drew
    have xc := HX.out _ (H0.out.mono hS1)
    have q0 : W.drew.cell? ⟨D, 0, none⟩ = some xa := cell_n xc.d 0 rfl
    have q1 : W.drew.cell? ⟨D, 1, none⟩ = some xb := cell_n xc.d 1 rfl
    have q2 : W.drew.cell? ⟨D, 2, none⟩ = some xd := cell_n xc.d 2 rfl
    have p0 : W.drew.cell? ⟨B, 0, none⟩ = some a0 := cell_n xc.b 0 rfl
    have p1 : W.drew.cell? ⟨B, 1, none⟩ = some b0 := cell_n xc.b 1 rfl
    have p2 : W.drew.cell? ⟨B, 2, none⟩ = some d0 := cell_n xc.b 2 rfl
    go_region_held3 (fun w' => w'.cell? ⟨D, 0, none⟩ = some xa ∧ w'.cell? ⟨D, 1, none⟩ = some xb ∧ w'.cell? ⟨D, 2, none⟩ = some xd ∧ w'.cell? ⟨B, 0, none⟩ = some a0 ∧ w'.cell? ⟨B, 1, none⟩ = some b0 ∧ w'.cell? ⟨B, 2, none⟩ = some d0) (first | with_reducible exact ⟨q0, q1, q2, p0, p1, p2⟩ | go_keep) (first
      | (go_at_call 15; (with_reducible refine (L1.out _ (HX.out _ (H0.out.mono hS1))).mono ?_); rintro e w8 ⟨rfl, hb⟩; have H8 := Lib.hid (H0.out.trans (hb.mono H0.out.size)); have xd8 := HX.out _ (H8.out.mono hS1); have q0 : w8.cell? ⟨D, 0, none⟩ = some xa := cell_n xd8.d 0 rfl; have q1 : w8.cell? ⟨D, 1, none⟩ = some xb := cell_n xd8.d 1 rfl; have q2 : w8.cell? ⟨D, 2, none⟩ = some xd := cell_n xd8.d 2 rfl; have p0 : w8.cell? ⟨B, 0, none⟩ = some a0 := cell_n xd8.b 0 rfl; have p1 : w8.cell? ⟨B, 1, none⟩ = some b0 := cell_n xd8.b 1 rfl; have p2 : w8.cell? ⟨B, 2, none⟩ = some d0 := cell_n xd8.b 2 rfl; clear hb xd8)
      | (go_at_call 22; (with_reducible refine (L2.out _ (HX.out _ (H8.out.mono hS1))).mono ?_); rintro e w9 ⟨rfl, hb⟩; have H9 := Lib.hid (H8.out.trans (hb.mono H8.out.size)); have xd9 := HX.out _ (H9.out.mono hS1); have q0 : w9.cell? ⟨D, 0, none⟩ = some xa := cell_n xd9.d 0 rfl; have q1 : w9.cell? ⟨D, 1, none⟩ = some xb := cell_n xd9.d 1 rfl; have q2 : w9.cell? ⟨D, 2, none⟩ = some xd := cell_n xd9.d 2 rfl; have p0 : w9.cell? ⟨B, 0, none⟩ = some a0 := cell_n xd9.b 0 rfl; have p1 : w9.cell? ⟨B, 1, none⟩ = some b0 := cell_n xd9.b 1 rfl; have p2 : w9.cell? ⟨B, 2, none⟩ = some d0 := cell_n xd9.b 2 rfl; clear hb xd9))
    all_goals
      clear q0 q1 q2 p0 p1 p2
      cases v
      all_goals
        go_wp2_with fail
        go_meet
        exact ⟨rfl, H9⟩
  case rest =>
  obtain ⟨rfl, HbV⟩ := hcut
  clear L1 L2
  obtain ⟨V1, hV1⟩ : ∃ V, V = wc := ⟨_, rfl⟩
  subst hV1
  obtain ⟨q, hqq⟩ : ∃ q, Hid (quorumB c hv = q) := ⟨_, rfl⟩
  have L1 : Hid (∀ w', Cfx B D S F a0 b0 d0 xa xb xd ov av hx hav c ops hv w' → Calls Try.prog 14 #[.agg #[xa, xb, xd], hx] w' fun e w'' => e = .returned (.bool q) ∧ Below w'.heap.size w' w'') := fun w' h => by have := quorum_law xa xb xd hx c hv w' h.cd.conf h.h.ints (by omega) (by omega); rwa [hqq.out] at this
  have L2 : Hid (∀ w', Cfx B D S F a0 b0 d0 xa xb xd ov av hx hav c ops hv w' → Calls Try.prog 51 #[.agg #[a0, b0, d0], hav] w' fun e w'' => e = .returned (.bool q) ∧ Below w'.heap.size w' w'') := fun w' h => by have := refQuorum_law a0 b0 d0 hav c hv w' h.cb h.ha (by omega) (by omega); rwa [hqq.out] at this
  go_upto_region 17 with fail
  try dsimp only
  go_cut [26] from 98 to 104 (fun cc wc => cc = .bool true ∧ Hid (Below W.heap.size W wc))
  case first =>
    have H0 : Hid (Below W.heap.size W V1.drew) := HbV.out.drew
    have xc := HX.out _ (H0.out.mono hS1)
    have q0 : V1.drew.cell? ⟨D, 0, none⟩ = some xa := cell_n xc.d 0 rfl
    have q1 : V1.drew.cell? ⟨D, 1, none⟩ = some xb := cell_n xc.d 1 rfl
    have q2 : V1.drew.cell? ⟨D, 2, none⟩ = some xd := cell_n xc.d 2 rfl
    have p0 : V1.drew.cell? ⟨B, 0, none⟩ = some a0 := cell_n xc.b 0 rfl
    have p1 : V1.drew.cell? ⟨B, 1, none⟩ = some b0 := cell_n xc.b 1 rfl
    have p2 : V1.drew.cell? ⟨B, 2, none⟩ = some d0 := cell_n xc.b 2 rfl
    go_region_held3 (fun w' => w'.cell? ⟨D, 0, none⟩ = some xa ∧ w'.cell? ⟨D, 1, none⟩ = some xb ∧ w'.cell? ⟨D, 2, none⟩ = some xd ∧ w'.cell? ⟨B, 0, none⟩ = some a0 ∧ w'.cell? ⟨B, 1, none⟩ = some b0 ∧ w'.cell? ⟨B, 2, none⟩ = some d0) (first | with_reducible exact ⟨q0, q1, q2, p0, p1, p2⟩ | go_keep) (first
      | (go_at_call 14; (with_reducible refine (L1.out _ (HX.out _ (H0.out.mono hS1))).mono ?_); rintro e w8 ⟨rfl, hb⟩; have H8 := Lib.hid (H0.out.trans (hb.mono H0.out.size)); have xd8 := HX.out _ (H8.out.mono hS1); have q0 : w8.cell? ⟨D, 0, none⟩ = some xa := cell_n xd8.d 0 rfl; have q1 : w8.cell? ⟨D, 1, none⟩ = some xb := cell_n xd8.d 1 rfl; have q2 : w8.cell? ⟨D, 2, none⟩ = some xd := cell_n xd8.d 2 rfl; have p0 : w8.cell? ⟨B, 0, none⟩ = some a0 := cell_n xd8.b 0 rfl; have p1 : w8.cell? ⟨B, 1, none⟩ = some b0 := cell_n xd8.b 1 rfl; have p2 : w8.cell? ⟨B, 2, none⟩ = some d0 := cell_n xd8.b 2 rfl; clear hb xd8)
      | (go_at_call 51; (with_reducible refine (L2.out _ (HX.out _ (H8.out.mono hS1))).mono ?_); rintro e w9 ⟨rfl, hb⟩; have H9 := Lib.hid (H8.out.trans (hb.mono H8.out.size)); have xd9 := HX.out _ (H9.out.mono hS1); have q0 : w9.cell? ⟨D, 0, none⟩ = some xa := cell_n xd9.d 0 rfl; have q1 : w9.cell? ⟨D, 1, none⟩ = some xb := cell_n xd9.d 1 rfl; have q2 : w9.cell? ⟨D, 2, none⟩ = some xd := cell_n xd9.d 2 rfl; have p0 : w9.cell? ⟨B, 0, none⟩ = some a0 := cell_n xd9.b 0 rfl; have p1 : w9.cell? ⟨B, 1, none⟩ = some b0 := cell_n xd9.b 1 rfl; have p2 : w9.cell? ⟨B, 2, none⟩ = some d0 := cell_n xd9.b 2 rfl; clear hb xd9))
    all_goals
      clear q0 q1 q2 p0 p1 p2
      cases q
      all_goals
        go_wp2_with fail
        go_meet
        exact ⟨rfl, H9⟩
  case rest =>
  obtain ⟨rfl, HbV⟩ := hcut
  clear L1 L2 hqq
  obtain ⟨V2, hV2⟩ : ∃ V, V = wc := ⟨_, rfl⟩
  subst hV2
  obtain ⟨l1, hl1⟩ : ∃ q, Hid ((!(quorumB c (leftP c hv))) = q) := ⟨_, rfl⟩
  obtain ⟨l2, hl2⟩ : ∃ q, Hid ((!(quorumB c (nineLeft hv))) = q) := ⟨_, rfl⟩
  have Hll : Hid (validB c = true → l1 = l2) := by
    show _ → _
    intro h; rw [← hl1.out, ← hl2.out, lost_eq h]
  have L1 : Hid (∀ w', Cfx B D S F a0 b0 d0 xa xb xd ov av hx hav c ops hv w' → Calls Try.prog 52 #[.agg #[xa, xb, xd], hx] w' fun e w'' => e = .returned (.bool l1) ∧ Below w'.heap.size w' w'') := fun w' h => by have := config_lost xa xb xd hx c hv w' h.cd.conf h.h.ints (by omega) (by omega) (by omega); rwa [hl1.out] at this
  have L2 : Hid (∀ w', Cfx B D S F a0 b0 d0 xa xb xd ov av hx hav c ops hv w' → Calls Try.prog 53 #[.agg #[a0, b0, d0], hav] w' fun e w'' => e = .returned (.bool l2) ∧ Below w'.heap.size w' w'') := fun w' h => by have := refLost_law a0 b0 d0 hav c hv w' h.cb h.ha (by omega) (by omega); rwa [hl2.out] at this
  go_upto_region 18 with fail
  try dsimp only
  go_cut [27] from 105 to 111 (fun cc wc => cc = .bool (l1 == l2) ∧ Hid (Below W.heap.size W wc))
  case first =>
    have H0 : Hid (Below W.heap.size W V2.drew) := HbV.out.drew
    have xc := HX.out _ (H0.out.mono hS1)
    have q0 : V2.drew.cell? ⟨D, 0, none⟩ = some xa := cell_n xc.d 0 rfl
    have q1 : V2.drew.cell? ⟨D, 1, none⟩ = some xb := cell_n xc.d 1 rfl
    have q2 : V2.drew.cell? ⟨D, 2, none⟩ = some xd := cell_n xc.d 2 rfl
    have p0 : V2.drew.cell? ⟨B, 0, none⟩ = some a0 := cell_n xc.b 0 rfl
    have p1 : V2.drew.cell? ⟨B, 1, none⟩ = some b0 := cell_n xc.b 1 rfl
    have p2 : V2.drew.cell? ⟨B, 2, none⟩ = some d0 := cell_n xc.b 2 rfl
    go_region_held3 (fun w' => w'.cell? ⟨D, 0, none⟩ = some xa ∧ w'.cell? ⟨D, 1, none⟩ = some xb ∧ w'.cell? ⟨D, 2, none⟩ = some xd ∧ w'.cell? ⟨B, 0, none⟩ = some a0 ∧ w'.cell? ⟨B, 1, none⟩ = some b0 ∧ w'.cell? ⟨B, 2, none⟩ = some d0) (first | with_reducible exact ⟨q0, q1, q2, p0, p1, p2⟩ | go_keep) (first
      | (go_at_call 52; (with_reducible refine (L1.out _ (HX.out _ (H0.out.mono hS1))).mono ?_); rintro e w8 ⟨rfl, hb⟩; have H8 := Lib.hid (H0.out.trans (hb.mono H0.out.size)); have xd8 := HX.out _ (H8.out.mono hS1); have q0 : w8.cell? ⟨D, 0, none⟩ = some xa := cell_n xd8.d 0 rfl; have q1 : w8.cell? ⟨D, 1, none⟩ = some xb := cell_n xd8.d 1 rfl; have q2 : w8.cell? ⟨D, 2, none⟩ = some xd := cell_n xd8.d 2 rfl; have p0 : w8.cell? ⟨B, 0, none⟩ = some a0 := cell_n xd8.b 0 rfl; have p1 : w8.cell? ⟨B, 1, none⟩ = some b0 := cell_n xd8.b 1 rfl; have p2 : w8.cell? ⟨B, 2, none⟩ = some d0 := cell_n xd8.b 2 rfl; clear hb xd8)
      | (go_at_call 53; (with_reducible refine (L2.out _ (HX.out _ (H8.out.mono hS1))).mono ?_); rintro e w9 ⟨rfl, hb⟩; have H9 := Lib.hid (H8.out.trans (hb.mono H8.out.size)); have xd9 := HX.out _ (H9.out.mono hS1); have q0 : w9.cell? ⟨D, 0, none⟩ = some xa := cell_n xd9.d 0 rfl; have q1 : w9.cell? ⟨D, 1, none⟩ = some xb := cell_n xd9.d 1 rfl; have q2 : w9.cell? ⟨D, 2, none⟩ = some xd := cell_n xd9.d 2 rfl; have p0 : w9.cell? ⟨B, 0, none⟩ = some a0 := cell_n xd9.b 0 rfl; have p1 : w9.cell? ⟨B, 1, none⟩ = some b0 := cell_n xd9.b 1 rfl; have p2 : w9.cell? ⟨B, 2, none⟩ = some d0 := cell_n xd9.b 2 rfl; clear hb xd9))
    all_goals
      clear q0 q1 q2 p0 p1 p2
      cases l1 <;> cases l2
      all_goals
        go_wp2_with fail
        go_meet
        exact ⟨rfl, H9⟩
  case rest =>
  obtain ⟨rfl, HbV⟩ := hcut
  have hzl : validB c = true → (l1 == l2) = true := fun h => by rw [Hll.out h]; exact beq_self_eq_true _
  clear L1 L2 hl1 hl2
  obtain ⟨V3, hV3⟩ : ∃ V, V = wc := ⟨_, rfl⟩
  subst hV3
  have hS1' : S1 ≤ V3.heap.size := Nat.le_trans hS1 HbV.out.size
  have HP' : Hid (∀ w', Below S1 V3 w' → post (.returned (.bool true)) w') := fun w' h => HP.out w' ((HbV.out.mono hS1).trans h)
  have HX' : Hid (∀ w', Below S1 V3 w' → Cfx B D S F a0 b0 d0 xa xb xd ov av hx hav c ops hv w') := fun w' h => HX.out w' ((HbV.out.mono hS1).trans h)
  have hE' : Hid (V3.heap[E]? = some (.cells #[ea, eb, ed] 25 (0, 0))) := (HbV.out.block E (lt_of_block hE.out)).trans hE.out
  have hG' : Hid (V3.heap[G]? = some (.cells #[ga, gb, gd] 25 (0, 0))) := (HbV.out.block G (lt_of_block hG.out)).trans hG.out
  have WE' : Hid (WI S1 V3 ea ∧ WI S1 V3 eb ∧ WI S1 V3 ed) := ⟨WE.out.1.keep (KeepSz.below HbV.out), WE.out.2.1.keep (KeepSz.below HbV.out), WE.out.2.2.keep (KeepSz.below HbV.out)⟩
  have WG' : Hid (WI S1 V3 ga ∧ WI S1 V3 gb ∧ WI S1 V3 gd) := ⟨WG.out.1.keep (KeepSz.below HbV.out), WG.out.2.1.keep (KeepSz.below HbV.out), WG.out.2.2.keep (KeepSz.below HbV.out)⟩
  have WM' : Hid (WI S1 V3 mv) := WM.out.keep (KeepSz.below HbV.out)
  go_step
  exact exact_votes B D S F a0 b0 d0 xa xb xd ov av hx hav c ops hv hc1 hc2 hc3 hvl hol S1 V3 hS1' post HP' HX' E G ea eb ed ga gb gd mv hE' hG' WE' WG' WM' NE e1 e2 z3 (l1 == l2) hz3 hzl
end Go.Proofs.Ytgdmcbjlfnjhjaa
