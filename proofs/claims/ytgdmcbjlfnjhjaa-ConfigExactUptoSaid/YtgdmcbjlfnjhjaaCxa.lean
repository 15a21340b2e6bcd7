/-
  ConfigExact: the law: all is held still; who votes; quorums.
-/
import Derived.Test.YtgdmcbjlfnjhjaaHeo
import Derived.Test.YtgdmcbjlfnjhjaaHop
import Derived.Test.YtgdmcbjlfnjhjaaCri
import Derived.Test.YtgdmcbjlfnjhjaaPce
import Derived.Deep.DeepCutAuto
import Derived.Deep.CutRange
namespace Go.Proofs.Ytgdmcbjlfnjhjaa
open Go.RowKit Wm Mm
set_option linter.unusedVariables false
set_option linter.unusedSimpArgs false

/-- what the law goes on from: the arguments, and the copies that the program is given -/
structure Cfx (B D S : Nat) (F : Nat → Prop) (a0 b0 d0 xa xb xd ov av hx hav : Value) (c : Conf) (ops : List OpP) (hv : List Int) (w : World) : Prop where
  b : w.heap[B]? = some (.cells #[a0, b0, d0] 25 (0, 0))
  cb : Config3 w a0 b0 d0 c
  d : w.heap[D]? = some (.cells #[xa, xb, xd] 25 (0, 0))
  cd : Config3H S w xa xb xd c
  o : HeldO S w ov ops
  oa : Sl 2 (Plain rowQ) F w av ops
  h : HeldI S w hx hv
  ha : Ints w hav hv
theorem Cfx.below {B D S : Nat} {F : Nat → Prop} {a0 b0 d0 xa xb xd ov av hx hav : Value} {c : Conf} {ops : List OpP} {hv : List Int} {w w' : World} (h : Cfx B D S F a0 b0 d0 xa xb xd ov av hx hav c ops hv w) (hb : Below w.heap.size w w') : Cfx B D S F a0 b0 d0 xa xb xd ov av hx hav c ops hv w' :=
  ⟨(hb.block _ (lt_of_block h.b)).trans h.b, h.cb.mono hb, (hb.block _ (lt_of_block h.d)).trans h.d, h.cd.below hb, h.o.below hb, h.oa.frame (Plain.good _) (Agree.below hb), h.h.below hb, h.ha.mono hb⟩
set_option maxHeartbeats 4000000 in
set_option maxRecDepth 100000 in
theorem exact_held {v0 v1 v4 v5 v6 v9 v10 v11 v14 v20 v28 v29 v30 v31 v32 v33 v34 v35 v36 v37 v38 v39 v40 v41 v42 v43 v44 v45 v46 v47 v48 v49 v50 v51 v52 v53 v54 v55 v56 v57 v58 v59 v60 v61 v62 v63 v64 v65 v66 v67 v68 v69 v70 v71 v72 v73 v74 v75 v76 v77 v78 v79 v80 v81 v82 v83 v84 v85 v86 v87 v88 v89 v90 v91 v92 v93 v94 v95 v96 v97 v98 v99 v100 v101 v102 v103 v104 v105 v106 v107 v108 v109 v110 v111 v112 v113 v114 v115 v116 v117 v118 v119 v120 v121 v122 v123 v124 v125 v126 v127 v128 v129 v130 v131 v132 v133 v134 v135 v136 v137 v138 v139 v140 v141 v142 v143 v144 v145 v146 v147 v148 v149 v150 v151 v152 v153 v154 v155 v156 v157 v158 v159 v160 v161 v162 v163 v164 v165 v166 v167 v168 v169 v170 v171 v172 v173 v174 v175 v176 v177 v178 v179 v180 v181 v182 v183 v184 v185 v186 v187 v188 v189 v190 : Value} (B D S : Nat) (F : Nat → Prop) (a0 b0 d0 xa xb xd ov av hx hav : Value) (c : Conf) (ops : List OpP) (hv : List Int) (hc1 : c.v.length ≤ 1048576) (hc2 : c.n.length ≤ 1048576) (hc3 : c.l.length ≤ 1048576) (hvl : hv.length ≤ 1048576) (hol : ops.length ≤ 1048576)
    (S1 : Nat) (W : World) (hS1 : S1 ≤ W.heap.size) (post : Ending → World → Prop) (HP : Hid (∀ w', Below S1 W w' → post (.returned (.bool true)) w')) (HX : Hid (∀ w', Below S1 W w' → Cfx B D S F a0 b0 d0 xa xb xd ov av hx hav c ops hv w'))
    (E G : Nat) (ea eb ed ga gb gd mv : Value) (hE : Hid (W.heap[E]? = some (.cells #[ea, eb, ed] 25 (0, 0)))) (hG : Hid (W.heap[G]? = some (.cells #[ga, gb, gd] 25 (0, 0))))
    (WE : Hid (WI S1 W ea ∧ WI S1 W eb ∧ WI S1 W ed)) (WG : Hid (WI S1 W ga ∧ WI S1 W gb ∧ WI S1 W gd)) (WM : Hid (WI S1 W mv))
    (NE : Hid (∀ v, v = ea ∨ v = eb ∨ v = ed ∨ v = ga ∨ v = gb ∨ v = gd ∨ v = mv → ∀ p n c, v = Value.slice p n c → n ≤ 1099511627776)) (e1 e2 : Int) (z3 zl : Bool) (hz3 : validB c = true → z3 = true) (hzl : validB c = true → zl = true) :
    Code.wp Try.prog ((Try.f6.body.bind (seqAt 25)).getD .skip) (bodyPost Try.prog Try.f6 post) ⟨#[v0, v1, hav, .pointer (some ⟨B, 0, none⟩), v4, v5, v6, .pointer (some ⟨D, 0, none⟩), hx, v9, v10, v11, .pointer (some ⟨E, 0, none⟩), .int .i64 e1, v14, .int .i64 e1, .bool true, .bool true, .pointer (some ⟨G, 0, none⟩), .int .i64 e2, v20, .int .i64 e2, .bool true, mv, .bool z3, .bool true, .bool true, .bool zl, v28, v29, v30, v31, v32, v33, v34, v35, v36, v37, v38, v39, v40, v41, v42, v43, v44, v45, v46, v47, v48, v49, v50, v51, v52, v53, v54, v55, v56, v57, v58, v59, v60, v61, v62, v63, v64, v65, v66, v67, v68, v69, v70, v71, v72, v73, v74, v75, v76, v77, v78, v79, v80, v81, v82, v83, v84, v85, v86, v87, v88, v89, v90, v91, v92, v93, v94, v95, v96, v97, v98, v99, v100, v101, v102, v103, v104, v105, v106, v107, v108, v109, v110, v111, v112, v113, v114, v115, v116, v117, v118, v119, v120, v121, v122, v123, v124, v125, v126, v127, v128, v129, v130, v131, v132, v133, v134, v135, v136, v137, v138, v139, v140, v141, v142, v143, v144, v145, v146, v147, v148, v149, v150, v151, v152, v153, v154, v155, v156, v157, v158, v159, v160, v161, v162, v163, v164, v165, v166, v167, v168, v169, v170, v171, v172, v173, v174, v175, v176, v177, v178, v179, v180, v181, v182, v183, v184, v185, v186, v187, v188, v189, v190], []⟩ W := by
  conv => arg 2; whnf
  have H0 : Hid (Below S1 W W) := Below.refl _ _
  have K0 : Hid (KeepO W W) := fun _ _ _ _ h _ => h
  have Z0 : Hid (KeepSz W W) := KeepSz.refl _
  have p0 : W.cell? ⟨B, 0, none⟩ = some a0 := cell_n (HX.out _ H0.out).b 0 rfl
  have p1 : W.cell? ⟨B, 1, none⟩ = some b0 := cell_n (HX.out _ H0.out).b 1 rfl
  have p2 : W.cell? ⟨B, 2, none⟩ = some d0 := cell_n (HX.out _ H0.out).b 2 rfl
  have q0 : W.cell? ⟨D, 0, none⟩ = some xa := cell_n (HX.out _ H0.out).d 0 rfl
  have q1 : W.cell? ⟨D, 1, none⟩ = some xb := cell_n (HX.out _ H0.out).d 1 rfl
  have q2 : W.cell? ⟨D, 2, none⟩ = some xd := cell_n (HX.out _ H0.out).d 2 rfl
  have K := Lib.hid (heldConfig_law xa xb xd a0 b0 d0 S c W (HX.out _ H0.out).cd (HX.out _ H0.out).cb (by omega) (by omega) (by omega))
  go_wp2_with fail
  refine K.out.mono ?_
  rintro e w1 ⟨rfl, hb⟩
  have H1 : Hid (Below S1 W w1) := hb.mono hS1
  have K1 := Lib.hid (KeepO.below hb)
  have Z1 := Lib.hid (KeepSz.below hb)
  clear hb p0 p1 p2 q0 q1 q2 K
  have K := Lib.hid (heldInts_law hx hav S hv w1 (HX.out _ H1.out).h (HX.out _ H1.out).ha (by omega))
  go_wp2_with fail
  refine K.out.mono ?_
  rintro e w2 ⟨rfl, hb⟩
  have H2 := Lib.hid (H1.out.trans (hb.mono (Nat.le_trans hS1 H1.out.size)))
  have K2 := Lib.hid (K1.out.trans (KeepO.below hb))
  have Z2 := Lib.hid (Z1.out.trans (KeepSz.below hb))
  clear hb K
  have xE := K2.out E _ _ _ hE.out (by decide)
  have q0 : w2.cell? ⟨E, 0, none⟩ = some ea := cell_n xE 0 rfl
  have q1 : w2.cell? ⟨E, 1, none⟩ = some eb := cell_n xE 1 rfl
  have q2 : w2.cell? ⟨E, 2, none⟩ = some ed := cell_n xE 2 rfl
  have K := Lib.hid (over_config ea eb ed S1 w2 (WE.out.1.keep Z2.out) (WE.out.2.1.keep Z2.out) (WE.out.2.2.keep Z2.out) (Nat.le_trans hS1 H2.out.size) (NE.out ea (by simp)) (NE.out eb (by simp)) (NE.out ed (by simp)))
  clear xE
  go_wp2_with fail
  refine K.out.mono ?_
  rintro e w3 ⟨rfl, hb, hz, hk⟩
  have H3 := Lib.hid (H2.out.trans hb)
  have K3 := Lib.hid (K2.out.trans hk)
  have Z3 := Lib.hid (Z2.out.trans hz)
  clear hb hz hk q0 q1 q2 K
  have xG := K3.out G _ _ _ hG.out (by decide)
  have q0 : w3.cell? ⟨G, 0, none⟩ = some ga := cell_n xG 0 rfl
  have q1 : w3.cell? ⟨G, 1, none⟩ = some gb := cell_n xG 1 rfl
  have q2 : w3.cell? ⟨G, 2, none⟩ = some gd := cell_n xG 2 rfl
  have K := Lib.hid (over_config ga gb gd S1 w3 (WG.out.1.keep Z3.out) (WG.out.2.1.keep Z3.out) (WG.out.2.2.keep Z3.out) (Nat.le_trans hS1 H3.out.size) (NE.out ga (by simp)) (NE.out gb (by simp)) (NE.out gd (by simp)))
  clear xG
  go_wp2_with fail
  refine K.out.mono ?_
  rintro e w4 ⟨rfl, hb, hz, hk⟩
  have H4 := Lib.hid (H3.out.trans hb)
  have Z4 := Lib.hid (Z3.out.trans hz)
  clear hb hz hk q0 q1 q2 K
  have WM4 := Lib.hid (WM.out.keep Z4.out)
  have K := Lib.hid (over_ints mv S1 w4 WM4.out (Nat.le_trans hS1 H4.out.size) (NE.out mv (by simp)))
  go_wp2_with fail
  refine K.out.mono ?_
  rintro e w5 ⟨rfl, hg, _⟩
  have H5 := Lib.hid (H4.out.trans (WM4.out.below hg (Nat.le_trans hS1 H4.out.size)))
  clear hg K
  have p0 : w5.cell? ⟨B, 0, none⟩ = some a0 := cell_n (HX.out _ H5.out).b 0 rfl
  have p1 : w5.cell? ⟨B, 1, none⟩ = some b0 := cell_n (HX.out _ H5.out).b 1 rfl
  have p2 : w5.cell? ⟨B, 2, none⟩ = some d0 := cell_n (HX.out _ H5.out).b 2 rfl
  have q0 : w5.cell? ⟨D, 0, none⟩ = some xa := cell_n (HX.out _ H5.out).d 0 rfl
  have q1 : w5.cell? ⟨D, 1, none⟩ = some xb := cell_n (HX.out _ H5.out).d 1 rfl
  have q2 : w5.cell? ⟨D, 2, none⟩ = some xd := cell_n (HX.out _ H5.out).d 2 rfl
  have K := Lib.hid (heldConfig_law xa xb xd a0 b0 d0 S c w5 (HX.out _ H5.out).cd (HX.out _ H5.out).cb (by omega) (by omega) (by omega))
  go_wp2_with fail
  refine K.out.mono ?_
  rintro e w6 ⟨rfl, hb⟩
  have H6 := Lib.hid (H5.out.trans (hb.mono (Nat.le_trans hS1 H5.out.size)))
  clear hb p0 p1 p2 q0 q1 q2 K
  have p0 : w6.cell? ⟨B, 0, none⟩ = some a0 := cell_n (HX.out _ H6.out).b 0 rfl
  have p1 : w6.cell? ⟨B, 1, none⟩ = some b0 := cell_n (HX.out _ H6.out).b 1 rfl
  have p2 : w6.cell? ⟨B, 2, none⟩ = some d0 := cell_n (HX.out _ H6.out).b 2 rfl
  have K := Lib.hid (ref_isConfig a0 b0 d0 c w6 (HX.out _ H6.out).cb)
  obtain ⟨v, hvv⟩ := hide (validB c)
  rw [hvv.out] at K hz3 hzl
  go_wp2_with fail
  refine K.out.mono ?_
  rintro e w7 ⟨rfl, hb⟩
  have Hq := Lib.hid (HP.out _ (H6.out.trans (hb.mono (Nat.le_trans hS1 H6.out.size))))
  clear hb p0 p1 p2 K
  cases v with
  | true =>
    obtain rfl := hz3 rfl
    obtain rfl := hzl rfl
    clear hz3 hzl
    go_wp2_with fail
    first | exact Hq.out | (go_ret; exact Hq.out)
  | false =>
    clear hz3 hzl
    cases z3 <;> cases zl
    all_goals
      go_wp2_with fail
      first | exact Hq.out | (go_ret; exact Hq.out)
set_option maxHeartbeats 4000000 in
set_option maxRecDepth 100000 in
theorem exact_votes {v0 v1 v4 v5 v6 v9 v10 v11 v14 v20 v28 v29 v30 v31 v32 v33 v34 v35 v36 v37 v38 v39 v40 v41 v42 v43 v44 v45 v46 v47 v48 v49 v50 v51 v52 v53 v54 v55 v56 v57 v58 v59 v60 v61 v62 v63 v64 v65 v66 v67 v68 v69 v70 v71 v72 v73 v74 v75 v76 v77 v78 v79 v80 v81 v82 v83 v84 v85 v86 v87 v88 v89 v90 v91 v92 v93 v94 v95 v96 v97 v98 v99 v100 v101 v102 v103 v104 v105 v106 v107 v108 v109 v110 v111 v112 v113 v114 v115 v116 v117 v118 v119 v120 v121 v122 v123 v124 v125 v126 v127 v128 v129 v130 v131 v132 v133 v134 v135 v136 v137 v138 v139 v140 v141 v142 v143 v144 v145 v146 v147 v148 v149 v150 v151 v152 v153 v154 v155 v156 v157 v158 v159 v160 v161 v162 v163 v164 v165 v166 v167 v168 v169 v170 v171 v172 v173 v174 v175 v176 v177 v178 v179 v180 v181 v182 v183 v184 v185 v186 v187 v188 v189 v190 : Value} (B D S : Nat) (F : Nat → Prop) (a0 b0 d0 xa xb xd ov av hx hav : Value) (c : Conf) (ops : List OpP) (hv : List Int) (hc1 : c.v.length ≤ 1048576) (hc2 : c.n.length ≤ 1048576) (hc3 : c.l.length ≤ 1048576) (hvl : hv.length ≤ 1048576) (hol : ops.length ≤ 1048576)
    (S1 : Nat) (W : World) (hS1 : S1 ≤ W.heap.size) (post : Ending → World → Prop) (HP : Hid (∀ w', Below S1 W w' → post (.returned (.bool true)) w')) (HX : Hid (∀ w', Below S1 W w' → Cfx B D S F a0 b0 d0 xa xb xd ov av hx hav c ops hv w'))
    (E G : Nat) (ea eb ed ga gb gd mv : Value) (hE : Hid (W.heap[E]? = some (.cells #[ea, eb, ed] 25 (0, 0)))) (hG : Hid (W.heap[G]? = some (.cells #[ga, gb, gd] 25 (0, 0))))
    (WE : Hid (WI S1 W ea ∧ WI S1 W eb ∧ WI S1 W ed)) (WG : Hid (WI S1 W ga ∧ WI S1 W gb ∧ WI S1 W gd)) (WM : Hid (WI S1 W mv))
    (NE : Hid (∀ v, v = ea ∨ v = eb ∨ v = ed ∨ v = ga ∨ v = gb ∨ v = gd ∨ v = mv → ∀ p n c, v = Value.slice p n c → n ≤ 1099511627776)) (e1 e2 : Int) (z3 zl : Bool) (hz3 : validB c = true → z3 = true) (hzl : validB c = true → zl = true) :
    Code.wp Try.prog ((Try.f6.body.bind (seqAt 19)).getD .skip) (bodyPost Try.prog Try.f6 post) ⟨#[v0, v1, hav, .pointer (some ⟨B, 0, none⟩), v4, v5, v6, .pointer (some ⟨D, 0, none⟩), hx, v9, v10, v11, .pointer (some ⟨E, 0, none⟩), .int .i64 e1, v14, .int .i64 e1, .bool true, .bool true, .pointer (some ⟨G, 0, none⟩), .int .i64 e2, v20, .int .i64 e2, .bool true, mv, .bool z3, .bool true, .bool true, .bool zl, v28, v29, v30, v31, v32, v33, v34, v35, v36, v37, v38, v39, v40, v41, v42, v43, v44, v45, v46, v47, v48, v49, v50, v51, v52, v53, v54, v55, v56, v57, v58, v59, v60, v61, v62, v63, v64, v65, v66, v67, v68, v69, v70, v71, v72, v73, v74, v75, v76, v77, v78, v79, v80, v81, v82, v83, v84, v85, v86, v87, v88, v89, v90, v91, v92, v93, v94, v95, v96, v97, v98, v99, v100, v101, v102, v103, v104, v105, v106, v107, v108, v109, v110, v111, v112, v113, v114, v115, v116, v117, v118, v119, v120, v121, v122, v123, v124, v125, v126, v127, v128, v129, v130, v131, v132, v133, v134, v135, v136, v137, v138, v139, v140, v141, v142, v143, v144, v145, v146, v147, v148, v149, v150, v151, v152, v153, v154, v155, v156, v157, v158, v159, v160, v161, v162, v163, v164, v165, v166, v167, v168, v169, v170, v171, v172, v173, v174, v175, v176, v177, v178, v179, v180, v181, v182, v183, v184, v185, v186, v187, v188, v189, v190], []⟩ W := by
  conv => arg 2; whnf
  go_wp2_with fail
  go_loopw [28] (fun c28 wr => ∃ k : Nat, c28 = .int .i64 (k : Int) ∧ k ≤ 11 ∧ Hid (Below W.heap.size W wr)) (fun i _ => 11 - (intOf i).toNat)
  case atStart => exact ⟨0, rfl, by omega, Below.refl _ _⟩
  case round =>
    rename_i K1 hK1
    obtain ⟨k, rfl, hk, HB⟩ := hrel
    by_cases hlt : k ≤ 10
    · have t0 : decide ((k : Int) ≤ 10) = true := decide_eq_true (by omega)
      have HBm : Hid (Below S1 W wr) := HB.out.mono hS1
      obtain ⟨V0, hV0⟩ : ∃ V, V = wr := ⟨_, rfl⟩
      subst hV0
      have p0 : V0.cell? ⟨B, 0, none⟩ = some a0 := cell_n (HX.out _ HBm.out).b 0 rfl
      have p1 : V0.cell? ⟨B, 1, none⟩ = some b0 := cell_n (HX.out _ HBm.out).b 1 rfl
      have p2 : V0.cell? ⟨B, 2, none⟩ = some d0 := cell_n (HX.out _ HBm.out).b 2 rfl
      have K := Lib.hid (ref_isConfig a0 b0 d0 c V0 (HX.out _ HBm.out).cb)
      obtain ⟨v, hvv⟩ := hide (validB c)
      rw [hvv.out] at K
      have hk1 : k + 1 ≤ 11 := by omega
      go_wp2_with fail
      refine K.out.mono ?_
      rintro e V ⟨rfl, hb⟩
      have HbV := Lib.hid (HB.out.trans (hb.mono HB.out.size))
      clear hb p0 p1 p2 K
      cases v with
      | false =>
        go_upto_region 23 with fail
        go_quiet (fail)
        go_wp2_with fail
        go_roundw
        case rel => exact ⟨k + 1, by go_num, by omega, by first | exact HbV | exact Lib.hid HbV.out.drew | exact Lib.hid (below_drewN HbV.out _)⟩
        case measure => simp [intOf]; omega
      | true =>
        have L1 : Hid (∀ w', Cfx B D S F a0 b0 d0 xa xb xd ov av hx hav c ops hv w' → Calls Try.prog 54 #[.agg #[xa, xb, xd], .int .i64 (k : Int)] w' fun e w'' => e = .returned (.bool (hasB c.v (k : Int) || hasB c.n (k : Int))) ∧ Below w'.heap.size w' w'') := fun w' h => config_votes xa xb xd c (k : Int) w' h.cd.conf
        have L2 : Hid (∀ w', Cfx B D S F a0 b0 d0 xa xb xd ov av hx hav c ops hv w' → Calls Try.prog 55 #[.agg #[a0, b0, d0], .int .i64 (k : Int)] w' fun e w'' => e = .returned (.bool (hasB c.v (k : Int) || hasB c.n (k : Int))) ∧ Below w'.heap.size w' w'') := fun w' h => ref_votes a0 b0 d0 c (k : Int) w' h.cb
        obtain ⟨q, hq⟩ := hide (hasB c.v (k : Int) || hasB c.n (k : Int))
        rw [hq.out] at L1 L2
        go_upto_region 23 with fail
        try dsimp only
        have H0 : Hid (Below W.heap.size W V.drew) := HbV.out.drew
        have xc := HX.out _ (H0.out.mono hS1)
        have q0 : V.drew.cell? ⟨D, 0, none⟩ = some xa := cell_n xc.d 0 rfl
        have q1 : V.drew.cell? ⟨D, 1, none⟩ = some xb := cell_n xc.d 1 rfl
        have q2 : V.drew.cell? ⟨D, 2, none⟩ = some xd := cell_n xc.d 2 rfl
        have p0 : V.drew.cell? ⟨B, 0, none⟩ = some a0 := cell_n xc.b 0 rfl
        have p1 : V.drew.cell? ⟨B, 1, none⟩ = some b0 := cell_n xc.b 1 rfl
        have p2 : V.drew.cell? ⟨B, 2, none⟩ = some d0 := cell_n xc.b 2 rfl
        go_region_held3 (fun w' => w'.cell? ⟨D, 0, none⟩ = some xa ∧ w'.cell? ⟨D, 1, none⟩ = some xb ∧ w'.cell? ⟨D, 2, none⟩ = some xd ∧ w'.cell? ⟨B, 0, none⟩ = some a0 ∧ w'.cell? ⟨B, 1, none⟩ = some b0 ∧ w'.cell? ⟨B, 2, none⟩ = some d0) (first | with_reducible exact ⟨q0, q1, q2, p0, p1, p2⟩ | go_keep) (first
          | (go_at_call 54; (with_reducible refine (L1.out _ (HX.out _ (H0.out.mono hS1))).mono ?_); rintro e w8 ⟨rfl, hb⟩; have H8 := Lib.hid (H0.out.trans (hb.mono H0.out.size)); have xd8 := HX.out _ (H8.out.mono hS1); have q0 : w8.cell? ⟨D, 0, none⟩ = some xa := cell_n xd8.d 0 rfl; have q1 : w8.cell? ⟨D, 1, none⟩ = some xb := cell_n xd8.d 1 rfl; have q2 : w8.cell? ⟨D, 2, none⟩ = some xd := cell_n xd8.d 2 rfl; have p0 : w8.cell? ⟨B, 0, none⟩ = some a0 := cell_n xd8.b 0 rfl; have p1 : w8.cell? ⟨B, 1, none⟩ = some b0 := cell_n xd8.b 1 rfl; have p2 : w8.cell? ⟨B, 2, none⟩ = some d0 := cell_n xd8.b 2 rfl; clear hb xd8)
          | (go_at_call 55; (with_reducible refine (L2.out _ (HX.out _ (H8.out.mono hS1))).mono ?_); rintro e w9 ⟨rfl, hb⟩; have H9 := Lib.hid (H8.out.trans (hb.mono H8.out.size)); have xd9 := HX.out _ (H9.out.mono hS1); have q0 : w9.cell? ⟨D, 0, none⟩ = some xa := cell_n xd9.d 0 rfl; have q1 : w9.cell? ⟨D, 1, none⟩ = some xb := cell_n xd9.d 1 rfl; have q2 : w9.cell? ⟨D, 2, none⟩ = some xd := cell_n xd9.d 2 rfl; have p0 : w9.cell? ⟨B, 0, none⟩ = some a0 := cell_n xd9.b 0 rfl; have p1 : w9.cell? ⟨B, 1, none⟩ = some b0 := cell_n xd9.b 1 rfl; have p2 : w9.cell? ⟨B, 2, none⟩ = some d0 := cell_n xd9.b 2 rfl; clear hb xd9))
        all_goals
          clear q0 q1 q2 p0 p1 p2
          cases q
          all_goals
            go_wp2_with fail
            go_roundw
            case rel => exact ⟨k + 1, by go_num, by omega, H9⟩
            case measure => simp [intOf]; omega
    · have t0 : decide ((k : Int) ≤ 10) = false := decide_eq_false (by omega)
      have hS1' : S1 ≤ wr.heap.size := Nat.le_trans hS1 HB.out.size
      have HP' : Hid (∀ w', Below S1 wr w' → post (.returned (.bool true)) w') := fun w' h => HP.out w' ((HB.out.mono hS1).trans h)
      have HX' : Hid (∀ w', Below S1 wr w' → Cfx B D S F a0 b0 d0 xa xb xd ov av hx hav c ops hv w') := fun w' h => HX.out w' ((HB.out.mono hS1).trans h)
      have hE' : Hid (wr.heap[E]? = some (.cells #[ea, eb, ed] 25 (0, 0))) := (HB.out.block E (lt_of_block hE.out)).trans hE.out
      have hG' : Hid (wr.heap[G]? = some (.cells #[ga, gb, gd] 25 (0, 0))) := (HB.out.block G (lt_of_block hG.out)).trans hG.out
      have WE' : Hid (WI S1 wr ea ∧ WI S1 wr eb ∧ WI S1 wr ed) := ⟨WE.out.1.keep (KeepSz.below HB.out), WE.out.2.1.keep (KeepSz.below HB.out), WE.out.2.2.keep (KeepSz.below HB.out)⟩
      have WG' : Hid (WI S1 wr ga ∧ WI S1 wr gb ∧ WI S1 wr gd) := ⟨WG.out.1.keep (KeepSz.below HB.out), WG.out.2.1.keep (KeepSz.below HB.out), WG.out.2.2.keep (KeepSz.below HB.out)⟩
      have WM' : Hid (WI S1 wr mv) := WM.out.keep (KeepSz.below HB.out)
      clear hlt
      go_upto_if 113 with (fail)
      iterate 12 (first | done | (refine hK1 _ _ ?_; exact exact_held B D S F a0 b0 d0 xa xb xd ov av hx hav c ops hv hc1 hc2 hc3 hvl hol S1 wr hS1' post HP' HX' E G ea eb ed ga gb gd mv hE' hG' WE' WG' WM' NE e1 e2 z3 zl hz3 hzl) | exact exact_held B D S F a0 b0 d0 xa xb xd ov av hx hav c ops hv hc1 hc2 hc3 hvl hol S1 wr hS1' post HP' HX' E G ea eb ed ga gb gd mv hE' hG' WE' WG' WM' NE e1 e2 z3 zl hz3 hzl | go_step)
end Go.Proofs.Ytgdmcbjlfnjhjaa
