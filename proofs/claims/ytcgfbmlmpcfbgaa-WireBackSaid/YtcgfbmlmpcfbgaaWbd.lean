/-
  WireBack: the law's walk: the configuration. WireBack: the law's walk: the entry.
-/
import Derived.Test.YtcgfbmlmpcfbgaaWbb
import Derived.Test.YtcgfbmlmpcfbgaaKnp
import Derived.Test.YtcgfbmlmpcfbgaaEh
import Derived.Test.YtcgfbmlmpcfbgaaEg
namespace Go.Proofs.Ytcgfbmlmpcfbgaa
open Go.RowKit Wm Mm Lg
set_option linter.unusedVariables false
set_option linter.unusedSimpArgs false

theorem sameConf_refl (c : Conf) : sameConf c c = true := by simp [sameConf]
set_option maxHeartbeats 4000000 in
set_option maxRecDepth 100000 in
theorem back_conf {v0 v1 v2 v5 v6 v7 v8 v9 v10 v11 v12 v13 v15 v16 v17 v18 v19 v20 v21 v22 v23 v24 v25 v26 v27 v28 v29 v30 v31 v32 v33 v34 v35 v36 v37 v38 v39 v40 v41 v42 v43 v44 v45 v46 v47 v48 v49 v50 v51 v52 v53 v54 v55 v56 v57 v58 v59 v60 v61 v62 v63 v64 v65 v66 v67 v68 v69 v70 v71 v72 v73 v74 v75 v76 v77 v78 v79 v80 v81 v82 v83 v84 v85 v86 v87 v88 v89 v90 v91 v92 v93 v94 v95 v96 v97 v98 v99 v100 v101 v102 v103 v104 v105 v106 v107 v108 v109 v110 v111 v112 v113 v114 v115 v116 v117 v118 v119 v120 v121 v122 v123 v124 v125 v126 v127 v128 v129 v130 v131 v132 v133 v134 v135 v136 v137 v138 v139 v140 v141 v142 v143 v144 v145 v146 v147 v148 v149 v150 v151 v152 v153 v154 v155 v156 v157 v158 v159 v160 v161 v162 v163 v164 v165 v166 v167 v168 v169 v170 v171 v172 v173 v174 v175 v176 v177 v178 v179 v180 v181 v182 v183 v184 v185 v186 v187 v188 v189 v190 v191 v192 v193 v194 v195 v196 v197 v198 v199 v200 v201 v202 v203 v204 v205 v206 v207 v208 v209 v210 v211 v212 v213 v214 v215 v216 v217 v218 v219 v220 v221 v222 v223 v224 v225 v226 v227 v228 v229 v230 v231 v232 v233 v234 v235 v236 v237 v238 v239 v240 v241 v242 v243 v244 v245 v246 v247 v248 v249 v250 : Value} (x : Ent) (n0 n1 n2 n3 n4 n5 : Int) (rest : List UInt8) (X N : Nat) (W : World) (post : Ending → World → Prop) (hr : rest.length ≤ 9223372036000000000)
    (he : isEntry x.index x.term x.kind x.data = true) (h1 : 1 ≤ x.index) (h2 : x.index ≤ 1073741824) (h3 : 1 ≤ x.term) (h4 : x.term ≤ 1073741824)
    (HX : Hid (W.heap[X]? = some (.cells #[.int .i64 x.index, .int .i64 x.term, .int .i64 x.kind, str x.data] 34 (0, 0)))) (HN : Hid (W.heap[N]? = some (.cells (rowN n0 n1 n2 n3 n4 n5) 22 (0, 0)))) (Hp : Hid (∀ w', Below W.heap.size W w' → post (.returned (.bool true)) w')) :
    Code.wp Try.prog ((Try.f3.body.bind (seqAt 15)).getD .skip) (bodyPost Try.prog Try.f3 post) ⟨#[v0, v1, v2, str rest, .pointer (some ⟨N, 0, none⟩), v5, v6, v7, v8, v9, v10, v11, v12, v13, .pointer (some ⟨X, 0, none⟩), v15, v16, v17, v18, v19, v20, v21, v22, v23, v24, v25, v26, v27, v28, v29, v30, v31, v32, v33, v34, v35, v36, v37, v38, v39, v40, v41, v42, v43, v44, v45, v46, v47, v48, v49, v50, v51, v52, v53, v54, v55, v56, v57, v58, v59, v60, v61, v62, v63, v64, v65, v66, v67, v68, v69, v70, v71, v72, v73, v74, v75, v76, v77, v78, v79, v80, v81, v82, v83, v84, v85, v86, v87, v88, v89, v90, v91, v92, v93, v94, v95, v96, v97, v98, v99, v100, v101, v102, v103, v104, v105, v106, v107, v108, v109, v110, v111, v112, v113, v114, v115, v116, v117, v118, v119, v120, v121, v122, v123, v124, v125, v126, v127, v128, v129, v130, v131, v132, v133, v134, v135, v136, v137, v138, v139, v140, v141, v142, v143, v144, v145, v146, v147, v148, v149, v150, v151, v152, v153, v154, v155, v156, v157, v158, v159, v160, v161, v162, v163, v164, v165, v166, v167, v168, v169, v170, v171, v172, v173, v174, v175, v176, v177, v178, v179, v180, v181, v182, v183, v184, v185, v186, v187, v188, v189, v190, v191, v192, v193, v194, v195, v196, v197, v198, v199, v200, v201, v202, v203, v204, v205, v206, v207, v208, v209, v210, v211, v212, v213, v214, v215, v216, v217, v218, v219, v220, v221, v222, v223, v224, v225, v226, v227, v228, v229, v230, v231, v232, v233, v234, v235, v236, v237, v238, v239, v240, v241, v242, v243, v244, v245, v246, v247, v248, v249, v250], []⟩ W := by
  conv => arg 2; whnf
  have m0 := cell_n HN.out 0 (v := .int .i64 n0) rfl
  have m5 := cell_n HN.out 5 (v := .int .i64 n5) rfl
  have K1 := Lib.hid (configOf_law n0 n5 W)
  have hval := confP_valid n0 n5
  obtain ⟨c, hc⟩ := hide (confP n0 n5)
  rw [hc.out] at K1 hval
  have He := Lib.hid he
  have H1 := Lib.hid h1
  have H2 := Lib.hid h2
  have H3 := Lib.hid h3
  have H4 := Lib.hid h4
  have Hval := Lib.hid hval
  clear he h1 h2 h3 h4 hval hc
  go_wp2_with fail
  refine K1.out.mono ?_
  rintro e w1 ⟨a, b, d, rfl, hcf, hb1⟩
  obtain ⟨a1, p1, rfl⟩ := hcf.v.len
  obtain ⟨a2, p2, rfl⟩ := hcf.n.len
  obtain ⟨a3, p3, rfl⟩ := hcf.l.len
  obtain ⟨W2, hW2⟩ := hide (w1.alloc (.cells #[.slice a1 c.v.length p1, .slice a2 c.n.length p2, .slice a3 c.l.length p3] 40))
  obtain ⟨Z, hZ⟩ := hide w1.heap.size
  have hbn : Below w1.heap.size w1 W2 := by rw [← hW2.out]; exact (Below.refl _ _).alloc (Nat.le_refl _) _
  have hz2 : W2.heap[Z]? = some (.cells #[.slice a1 c.v.length p1, .slice a2 c.n.length p2, .slice a3 c.l.length p3] 40 (0, 0)) := by rw [← hW2.out, ← hZ.out]; exact hp_at _ _ rfl
  have HZ2 := Lib.hid hz2
  have Hb2 : Hid (Below W.heap.size W W2) := hb1.trans (hbn.mono hb1.size)
  have HCF : Hid (∀ w', Below W2.heap.size W2 w' → Config3 w' (.slice a1 c.v.length p1) (.slice a2 c.n.length p2) (.slice a3 c.l.length p3) c) := fun w' h => (hcf.conf.mono hbn).mono h
  have e1 : putConfB c = putConf c := by rw [putConfB, if_pos Hval.out]
  have e2 : putConfE c = 0 := by rw [putConfE, if_pos Hval.out]
  have KP := wire_putConfig _ _ _ c W2 (HCF.out _ (Below.refl _ _))
  rw [e1, e2] at KP
  have hl := putConf_len Hval.out
  have KG := fun w1 => wire_getConfig (putConf c) w1 (by omega)
  have e3 : full (rdConf (putConf c)) = .ok c := by
    have := rdConf_put Hval.out []
    rw [List.append_nil] at this
    rw [this]
    rfl
  rw [e3] at KG
  have KP := Lib.hid KP
  have KG := Lib.hid KG
  obtain ⟨g, hg⟩ := hide (putConf c)
  rw [hg.out] at KP KG
  clear e1 e2 e3 hg hl hcf hb1 hbn hz2 m0 m5
  have z0 := cell_n HZ2.out 0 (v := .slice a1 c.v.length p1) rfl
  have z1 := cell_n HZ2.out 1 (v := .slice a2 c.n.length p2) rfl
  have z2 := cell_n HZ2.out 2 (v := .slice a3 c.l.length p3) rfl
  go_upto_region 16 with fail
  rw [hW2.out]
  try rw [hZ.out]
  go_wp2_with fail
  refine KP.out.mono ?_
  rintro e w3 ⟨rfl, hb3⟩
  have Hb3 := Lib.hid hb3
  clear hb3 z0 z1 z2
  go_wp2_with fail
  refine (KG.out _).mono ?_
  rintro e w4 ⟨sx, sy, sz, rfl, hcf2, hb4⟩
  obtain ⟨q1, r1, rfl⟩ := hcf2.v.len
  obtain ⟨q2, r2, rfl⟩ := hcf2.n.len
  obtain ⟨q3, r3, rfl⟩ := hcf2.l.len
  have hb24 := Hb3.out.trans (hb4.mono Hb3.out.size)
  obtain ⟨W5, hW5⟩ := hide (w4.alloc (.cells #[.slice q1 c.v.length r1, .slice q2 c.n.length r2, .slice q3 c.l.length r3] 40))
  obtain ⟨Y, hY⟩ := hide w4.heap.size
  have hbn5 : Below w4.heap.size w4 W5 := by rw [← hW5.out]; exact (Below.refl _ _).alloc (Nat.le_refl _) _
  have hb25 : Below W2.heap.size W2 W5 := hb24.trans (hbn5.mono hb24.size)
  have HY5 : Hid (W5.heap[Y]? = some (.cells #[.slice q1 c.v.length r1, .slice q2 c.n.length r2, .slice q3 c.l.length r3] 40 (0, 0))) := by show _ = _; rw [← hW5.out, ← hY.out]; exact hp_at _ _ rfl
  have HZ5 : Hid (W5.heap[Z]? = some (.cells #[.slice a1 c.v.length p1, .slice a2 c.n.length p2, .slice a3 c.l.length p3] 40 (0, 0))) := (hb25.block Z (lt_of_block HZ2.out)).trans HZ2.out
  have KS := config_same _ _ _ _ _ _ c c W5 (hcf2.conf.mono hbn5) (HCF.out _ hb25)
  rw [sameConf_refl] at KS
  have KS := Lib.hid KS
  have Hb5 : Hid (Below W.heap.size W W5) := Hb2.out.trans (hb25.mono Hb2.out.size)
  clear hcf2 hb4 hb24 hbn5 hb25
  have y0 := cell_n HY5.out 0 (v := .slice q1 c.v.length r1) rfl
  have y1 := cell_n HY5.out 1 (v := .slice q2 c.n.length r2) rfl
  have y2 := cell_n HY5.out 2 (v := .slice q3 c.l.length r3) rfl
  have z0 := cell_n HZ5.out 0 (v := .slice a1 c.v.length p1) rfl
  have z1 := cell_n HZ5.out 1 (v := .slice a2 c.n.length p2) rfl
  have z2 := cell_n HZ5.out 2 (v := .slice a3 c.l.length p3) rfl
  go_upto_region 18 with fail
  rw [hW5.out]
  try rw [hY.out]
  go_wp2_with fail
  refine KS.out.mono ?_
  rintro e w6 ⟨rfl, hb6⟩
  have hb06 : Below W.heap.size W w6 := Hb5.out.trans (hb6.mono Hb5.out.size)
  have HX6 : Hid (w6.heap[X]? = some (.cells #[.int .i64 x.index, .int .i64 x.term, .int .i64 x.kind, str x.data] 34 (0, 0))) := (hb06.block X (lt_of_block HX.out)).trans HX.out
  have HN6 : Hid (w6.heap[N]? = some (.cells (rowN n0 n1 n2 n3 n4 n5) 22 (0, 0))) := (hb06.block N (lt_of_block HN.out)).trans HN.out
  have HP6 : Hid (∀ w', Below w6.heap.size w6 w' → post (.returned (.bool true)) w') := fun w' h => Hp.out w' (hb06.trans (h.mono hb06.size))
  clear hb06 hb6 y0 y1 y2 z0 z1 z2
  dsimp only
  go_upto_if 135 with (fail)
  iterate 14 (first | done | exact back_build x n0 n1 n2 n3 n4 n5 rest X N w6 post hr He.out H1.out H2.out H3.out H4.out HX6 HN6 HP6 | go_step)
end Go.Proofs.Ytcgfbmlmpcfbgaa

namespace Go.Proofs.Ytcgfbmlmpcfbgaa
open Go.RowKit Wm Mm Lg
set_option linter.unusedVariables false
set_option linter.unusedSimpArgs false

theorem one_alloc (W : World) (c1 : Array Value) (T1 : TypeId) : (W.alloc (.cells c1 T1)).drew.heap[W.heap.size]? = some (.cells c1 T1 (0, 0)) ∧ Below W.heap.size W (W.alloc (.cells c1 T1)).drew :=
  ⟨hp_at _ _ rfl, ((Below.refl _ _).alloc (Nat.le_refl _) _).drew⟩
set_option maxHeartbeats 4000000 in
set_option maxRecDepth 100000 in
theorem back_entry {v0 v1 v2 v5 v6 v7 v8 v9 v11 v12 v13 v14 v15 v16 v17 v18 v19 v20 v21 v22 v23 v24 v25 v26 v27 v28 v29 v30 v31 v32 v33 v34 v35 v36 v37 v38 v39 v40 v41 v42 v43 v44 v45 v46 v47 v48 v49 v50 v51 v52 v53 v54 v55 v56 v57 v58 v59 v60 v61 v62 v63 v64 v65 v66 v67 v68 v69 v70 v71 v72 v73 v74 v75 v76 v77 v78 v79 v80 v81 v82 v83 v84 v85 v86 v87 v88 v89 v90 v91 v92 v93 v94 v95 v96 v97 v98 v99 v100 v101 v102 v103 v104 v105 v106 v107 v108 v109 v110 v111 v112 v113 v114 v115 v116 v117 v118 v119 v120 v121 v122 v123 v124 v125 v126 v127 v128 v129 v130 v131 v132 v133 v134 v135 v136 v137 v138 v139 v140 v141 v142 v143 v144 v145 v146 v147 v148 v149 v150 v151 v152 v153 v154 v155 v156 v157 v158 v159 v160 v161 v162 v163 v164 v165 v166 v167 v168 v169 v170 v171 v172 v173 v174 v175 v176 v177 v178 v179 v180 v181 v182 v183 v184 v185 v186 v187 v188 v189 v190 v191 v192 v193 v194 v195 v196 v197 v198 v199 v200 v201 v202 v203 v204 v205 v206 v207 v208 v209 v210 v211 v212 v213 v214 v215 v216 v217 v218 v219 v220 v221 v222 v223 v224 v225 v226 v227 v228 v229 v230 v231 v232 v233 v234 v235 v236 v237 v238 v239 v240 v241 v242 v243 v244 v245 v246 v247 v248 v249 v250 : Value} (a : List UInt8) (n0 n1 n2 n3 n4 n5 : Int) (rest : List UInt8) (N : Nat) (W : World) (post : Ending → World → Prop) (hr : rest.length ≤ 9223372036000000000)
    (ha : a.length ≤ 256) (HN : Hid (W.heap[N]? = some (.cells (rowN n0 n1 n2 n3 n4 n5) 22 (0, 0)))) (Hp : Hid (∀ w', Below W.heap.size W w' → post (.returned (.bool true)) w')) :
    Code.wp Try.prog ((Try.f3.body.bind (seqAt 10)).getD .skip) (bodyPost Try.prog Try.f3 post) ⟨#[v0, v1, v2, str rest, .pointer (some ⟨N, 0, none⟩), v5, v6, v7, v8, v9, str a, v11, v12, v13, v14, v15, v16, v17, v18, v19, v20, v21, v22, v23, v24, v25, v26, v27, v28, v29, v30, v31, v32, v33, v34, v35, v36, v37, v38, v39, v40, v41, v42, v43, v44, v45, v46, v47, v48, v49, v50, v51, v52, v53, v54, v55, v56, v57, v58, v59, v60, v61, v62, v63, v64, v65, v66, v67, v68, v69, v70, v71, v72, v73, v74, v75, v76, v77, v78, v79, v80, v81, v82, v83, v84, v85, v86, v87, v88, v89, v90, v91, v92, v93, v94, v95, v96, v97, v98, v99, v100, v101, v102, v103, v104, v105, v106, v107, v108, v109, v110, v111, v112, v113, v114, v115, v116, v117, v118, v119, v120, v121, v122, v123, v124, v125, v126, v127, v128, v129, v130, v131, v132, v133, v134, v135, v136, v137, v138, v139, v140, v141, v142, v143, v144, v145, v146, v147, v148, v149, v150, v151, v152, v153, v154, v155, v156, v157, v158, v159, v160, v161, v162, v163, v164, v165, v166, v167, v168, v169, v170, v171, v172, v173, v174, v175, v176, v177, v178, v179, v180, v181, v182, v183, v184, v185, v186, v187, v188, v189, v190, v191, v192, v193, v194, v195, v196, v197, v198, v199, v200, v201, v202, v203, v204, v205, v206, v207, v208, v209, v210, v211, v212, v213, v214, v215, v216, v217, v218, v219, v220, v221, v222, v223, v224, v225, v226, v227, v228, v229, v230, v231, v232, v233, v234, v235, v236, v237, v238, v239, v240, v241, v242, v243, v244, v245, v246, v247, v248, v249, v250], []⟩ W := by
  conv => arg 2; whnf
  have K3 : Hid (∀ w1, Calls Try.prog 4 #[.int .i64 n3, .int .i64 1073741824] w1 fun e w' => e = .returned (.int .i64 (pickN n3 1073741824 : Nat)) ∧ w1 = w') := fun w1 => pick_any n3 1073741824 w1 (by omega) (by omega)
  have K4 : Hid (∀ w1, Calls Try.prog 4 #[.int .i64 n4, .int .i64 1073741824] w1 fun e w' => e = .returned (.int .i64 (pickN n4 1073741824 : Nat)) ∧ w1 = w') := fun w1 => pick_any n4 1073741824 w1 (by omega) (by omega)
  have b3 := pickN_lt (c := n3) (n := 1073741824) (by omega)
  have b4 := pickN_lt (c := n4) (n := 1073741824) (by omega)
  obtain ⟨i3, h3⟩ := hide (pickN n3 1073741824)
  obtain ⟨i4, h4⟩ := hide (pickN n4 1073741824)
  rw [h3.out] at K3 b3
  rw [h4.out] at K4 b4
  have m3 := cell_n HN.out 3 (v := .int .i64 n3) rfl
  have m4 := cell_n HN.out 4 (v := .int .i64 n4) rfl
  have w3 : IntKind.i64.wrap (1 + (i3 : Int)) = 1 + (i3 : Int) := IntWalk.i64_in _ (by omega)
  have w4 : IntKind.i64.wrap (1 + (i4 : Int)) = 1 + (i4 : Int) := IntWalk.i64_in _ (by omega)
  have B3 := Lib.hid b3
  have B4 := Lib.hid b4
  have Ha := Lib.hid ha
  have hNl := lt_of_block HN.out
  have hNn : W.heap.size ≠ N := by omega
  clear b3 b4 h3 h4 ha
  go_upto_region 10 with fail
  try dsimp only
  go_cut [14] from 77 to 86 (fun c14 wc => ∃ Xb : Nat, c14 = .pointer (some ⟨Xb, 0, none⟩) ∧ Hid (wc.heap[Xb]? = some (.cells #[.int .i64 (1 + (i3 : Int)), .int .i64 (1 + (i4 : Int)), .int .i64 1, str a] 34 (0, 0))) ∧ Hid (Below W.heap.size W wc))
  case first =>
    go_region_held3 (fun w' => w'.cell? ⟨N, 3, none⟩ = some (.int .i64 n3) ∧ w'.cell? ⟨N, 4, none⟩ = some (.int .i64 n4)) (first | with_reducible exact ⟨m3, m4⟩ | go_keep) (first
      | (go_at_call 4; (with_reducible refine (K3.out _).mono ?_); rintro e w2 ⟨rfl, rfl⟩)
      | (go_at_call 4; (with_reducible refine (K4.out _).mono ?_); rintro e w2 ⟨rfl, rfl⟩))
    all_goals
      go_wp2_with fail
      go_meet
      exact ⟨W.heap.size, rfl, (one_alloc W _ _).1, (one_alloc W _ _).2⟩
  case rest =>
    obtain ⟨X, rfl, hx, hbb⟩ := hcut
    obtain ⟨W2, hW2⟩ : ∃ V, V = wc := ⟨_, rfl⟩
    subst hW2
    clear m3 m4 w3 w4 hNl hNn
    have HX2 : Hid (W2.heap[X]? = some (.cells #[.int .i64 ((1 + i3 : Nat) : Int), .int .i64 ((1 + i4 : Nat) : Int), .int .i64 ((1 : Nat) : Int), str a] 34 (0, 0))) := by
      show _ = _
      rw [show ((1 + i3 : Nat) : Int) = 1 + (i3 : Int) from by omega, show ((1 + i4 : Nat) : Int) = 1 + (i4 : Int) from by omega]
      exact hx.out
    have he : isEntry ((1 + i3 : Nat) : Int) ((1 + i4 : Nat) : Int) ((1 : Nat) : Int) a = true := by
      have c1 : inB ((1 + i3 : Nat) : Int) 1 1099511627775 = true := inB_mk (by omega) (by have := B3.out; omega)
      have c2 : inB ((1 + i4 : Nat) : Int) 1 1099511627775 = true := inB_mk (by omega) (by have := B4.out; omega)
      have c3 : decide (a.length ≤ 256) = true := decide_eq_true Ha.out
      rw [isEntry, c1, c2, c3]
      rfl
    have He := Lib.hid he
    have KP := wire_putEntry ((1 + i3 : Nat) : Int) ((1 + i4 : Nat) : Int) ((1 : Nat) : Int) a W2
    have e1 : putEntB ((1 + i3 : Nat) : Int) ((1 + i4 : Nat) : Int) ((1 : Nat) : Int) a = putEnt (1 + i3) (1 + i4) 1 a := by rw [putEntB, if_pos he]; rfl
    have e2 : putEntE ((1 + i3 : Nat) : Int) ((1 + i4 : Nat) : Int) ((1 : Nat) : Int) a = 0 := by rw [putEntE, if_pos he]
    rw [e1, e2] at KP
    have hl := putEnt_len (1 + i3) (1 + i4) 1 a (by have := B3.out; omega) (by have := B4.out; omega) (by omega) Ha.out
    have KG := fun w1 => wire_getEntry (putEnt (1 + i3) (1 + i4) 1 a) w1 (by omega)
    have e3 : full (rdEnt (putEnt (1 + i3) (1 + i4) 1 a)) = .ok (⟨1 + i3, 1 + i4, 1, a⟩ : Ent) := by
      have := rdEnt_put (i := 1 + i3) (t := 1 + i4) (k := 1) (d := a) he []
      rw [List.append_nil] at this
      rw [this]
      rfl
    rw [e3] at KG
    have KP := Lib.hid KP
    have KG := Lib.hid KG
    obtain ⟨c, hc⟩ := hide (putEnt (1 + i3) (1 + i4) 1 a)
    rw [hc.out] at KP KG
    obtain ⟨j3, hj3⟩ := hide (1 + i3)
    obtain ⟨j4, hj4⟩ := hide (1 + i4)
    rw [hj3.out, hj4.out] at KP KG He HX2
    have g1 : Hid (1 ≤ j3 ∧ j3 ≤ 1073741824) := by show _ ∧ _; rw [← hj3.out]; have := B3.out; omega
    have g2 : Hid (1 ≤ j4 ∧ j4 ≤ 1073741824) := by show _ ∧ _; rw [← hj4.out]; have := B4.out; omega
    clear e1 e2 e3 hc hl he hj3 hj4 hx
    have x0 := cell_n HX2.out 0 (v := .int .i64 (j3 : Nat)) rfl
    have x1 := cell_n HX2.out 1 (v := .int .i64 (j4 : Nat)) rfl
    have x2 := cell_n HX2.out 2 (v := .int .i64 ((1 : Nat) : Int)) rfl
    have x3 := cell_n HX2.out 3 (v := str a) rfl
    go_wp2_with fail
    refine KP.out.mono ?_
    rintro e w3 ⟨rfl, hb3⟩
    have Hb3 := Lib.hid hb3
    clear hb3 x0 x1 x2 x3
    go_wp2_with fail
    refine (KG.out _).mono ?_
    rintro e w4 ⟨rfl, hb4⟩
    obtain ⟨W5, hW5⟩ := hide (w4.alloc (.cells #[.int .i64 (j3 : Nat), .int .i64 (j4 : Nat), .int .i64 1, str a] 34))
    obtain ⟨Y, hY⟩ := hide w4.heap.size
    have hb24 := Hb3.out.trans (hb4.mono Hb3.out.size)
    have hb25 : Below W2.heap.size W2 W5 := by rw [← hW5.out]; exact hb24.alloc hb24.size _
    have HY5 : Hid (W5.heap[Y]? = some (.cells #[.int .i64 (j3 : Nat), .int .i64 (j4 : Nat), .int .i64 1, str a] 34 (0, 0))) := by show _ = _; rw [← hW5.out, ← hY.out]; exact hp_at _ _ rfl
    have HX5 : Hid (W5.heap[X]? = some (.cells #[.int .i64 (j3 : Nat), .int .i64 (j4 : Nat), .int .i64 ((1 : Nat) : Int), str a] 34 (0, 0))) := (hb25.block X (lt_of_block HX2.out)).trans HX2.out
    have hb05 : Below W.heap.size W W5 := hbb.out.trans (hb25.mono hbb.out.size)
    have HN5 : Hid (W5.heap[N]? = some (.cells (rowN n0 n1 n2 n3 n4 n5) 22 (0, 0))) := (hb05.block N (lt_of_block HN.out)).trans HN.out
    have HP5 : Hid (∀ w', Below W5.heap.size W5 w' → post (.returned (.bool true)) w') := fun w' h => Hp.out w' (hb05.trans (h.mono hb05.size))
    clear hb4 hb24 hb25 hb05
    have y0 := cell_n HY5.out 0 (v := .int .i64 (j3 : Nat)) rfl
    have y1 := cell_n HY5.out 1 (v := .int .i64 (j4 : Nat)) rfl
    have y2 := cell_n HY5.out 2 (v := .int .i64 1) rfl
    have y3 := cell_n HY5.out 3 (v := str a) rfl
    have x0 := cell_n HX5.out 0 (v := .int .i64 (j3 : Nat)) rfl
    have x1 := cell_n HX5.out 1 (v := .int .i64 (j4 : Nat)) rfl
    have x2 := cell_n HX5.out 2 (v := .int .i64 1) rfl
    have x3 := cell_n HX5.out 3 (v := str a) rfl
    go_upto_region 13 with fail
    rw [hW5.out]
    try rw [hY.out]
    go_upto_if 107 with (fail)
    clear y0 y1 y2 y3 x0 x1 x2 x3
    iterate 14 (first | done | exact back_conf ⟨j3, j4, 1, a⟩ n0 n1 n2 n3 n4 n5 rest X N W5 post hr He.out g1.out.1 g1.out.2 g2.out.1 g2.out.2 HX5 HN5 HP5 | go_step)
end Go.Proofs.Ytcgfbmlmpcfbgaa
