/-
  ClientOnce: an answer is handed in; whether it must be the result: two pieces of the law's round.
-/
import Derived.Test.YtckclacdmpcpbaaZg
import Derived.Deep.RegionHeld3
namespace Go.Proofs.Ytckclacdmpcpbaa
open Go.RowKit Wm Mm Clt
set_option linter.unusedVariables false
set_option linter.unusedSimpArgs false

theorem cell_keep {w w' : World} {C b o : Nat} {v : Value} (hc : Chg (OnlyC C) w.drew w') (hb : b ≠ C) (h : w.cell? ⟨b, o, none⟩ = some v) : w'.cell? ⟨b, o, none⟩ = some v := by
  have hl := World.block_lt_of_cell? _ _ h
  have e : w'.heap[b]? = w.heap[b]? := hc.block b hl (fun e => hb e)
  rw [← h]
  simp only [World.cell?, e]

set_option maxHeartbeats 4000000 in
set_option maxRecDepth 100000 in
theorem piece_answer {v0 v2 v3 v4 v5 v6 v8 v9 v10 v11 v14 v15 v16 v17 v18 v19 v20 v21 v22 v24 v25 v26 v27 v28 v29 v30 v31 v32 v33 v34 v35 v36 v37 v38 v39 v40 v41 v42 v43 v44 v45 v46 v47 v48 v49 v50 v51 v52 v53 v54 v55 v56 v57 v58 v59 v60 v61 v62 v63 v64 v65 v66 v67 v68 v69 v70 v71 v72 v73 v74 v75 v76 v77 v78 v79 v80 v81 v82 v83 v84 v85 v86 v87 v88 v89 v90 v91 v92 v93 v94 v95 v96 v97 v98 v99 v100 v101 v102 v103 v104 v105 v106 v107 v108 v109 v110 v111 v112 v113 v114 v115 v116 v117 v118 v119 v120 v121 v122 v123 v124 v125 v126 v127 v128 v129 v130 v131 v132 v133 v134 v135 v136 v137 v138 v139 v140 v141 v142 v143 v144 v145 v146 v147 v148 v149 v150 v151 v152 v153 v154 v155 v156 v157 v158 v159 v160 v161 v162 v163 v164 v165 v166 v167 v168 v169 v170 v171 v172 v173 v174 v175 v176 v177 v178 v179 v180 v181 v182 v183 v184 v185 v186 v187 v188 v189 v190 v191 v192 v193 v194 v195 v196 v197 v198 v199 v200 v201 v202 v203 v204 v205 v206 v207 v208 v209 v210 v211 v212 v213 v214 v215 v216 v217 v218 v219 v220 v221 v222 v223 v224 v225 v226 v227 v228 v229 v230 v231 v232 v233 v234 v235 v236 v237 v238 v239 v240 v241 v242 v243 v244 v245 v246 v247 v248 v249 v250 v251 v252 v253 v254 v255 v256 v257 v258 v259 v260 v261 v262 v263 v264 v265 v266 v267 v268 : Value} (n sc b off C A last i T23 N : Nat) (w0 W : World) (tok err kd : Int) (p3 ver : Nat) (val : List UInt8) (kv : Value) (keys : List (List UInt8)) (G : Nat → Prop) (asked : CmdC) (c2 : CliP)
    (HS : Hid (Cl0 w0 W C A c2 asked)) (HO : Hid (OkC N c2)) (hN : N ≤ 1073741824) (hi : (i : Int) < (n : Int)) (hlast : last ≤ 65600)
    (e0 : W.cell? ⟨b, off + i * 6, none⟩ = some (.int .i64 tok)) (e1 : W.cell? ⟨b, off + i * 6 + 1, none⟩ = some (.int .i64 err))
    (HT : Hid (W.heap[T23]? = some (.cells #[.int .i64 kd, str val, .int .i64 (ver : Int), kv] 82 (0, 0))))
    (htok : i64c tok) (hp : tok % 3 = (p3 : Int)) (hk1 : 1 ≤ kd) (hk5 : kd ≤ 5) (hv : ver ≤ 50)
    (Hkeys : Hid (Sl 1 (Plain rowT) G W kv keys)) (hkl : keys.length ≤ 8796093022000) (hFC : ¬ G C) (hbC : b ≠ C)
    (K : Act → World → Prop)
    (HK : Hid (∀ (u201 u202 u203 u204 u205 u206 u207 u208 u209 u210 u211 u212 u213 u214 u215 u216 : Value) (wx : World), Hid (Cl0 w0 wx C A (answerC c2 ((last : Int) - (p3 : Int)) err kd ver) asked) ∧ Hid (Chg (OnlyC C) W wx) → K ⟨#[v0, .slice (some ⟨b, off, none⟩) n sc, v2, v3, v4, v5, v6, .pointer (some ⟨C, 0, none⟩), v8, v9, v10, v11, .int .i64 (last : Int), .int .i64 (i : Int), v14, v15, v16, v17, v18, v19, v20, v21, v22, .pointer (some ⟨T23, 0, none⟩), v24, v25, v26, v27, v28, v29, v30, v31, v32, v33, v34, v35, v36, v37, v38, v39, v40, v41, v42, v43, v44, v45, v46, v47, v48, v49, v50, v51, v52, v53, v54, v55, v56, v57, v58, v59, v60, v61, v62, v63, v64, v65, v66, v67, v68, v69, v70, v71, v72, v73, v74, v75, v76, v77, v78, v79, v80, v81, v82, v83, v84, v85, v86, v87, v88, v89, v90, v91, v92, v93, v94, v95, v96, v97, v98, v99, v100, v101, v102, v103, v104, v105, v106, v107, v108, v109, v110, v111, v112, v113, v114, v115, v116, v117, v118, v119, v120, v121, v122, v123, v124, v125, v126, v127, v128, v129, v130, v131, v132, v133, v134, v135, v136, v137, v138, v139, v140, v141, v142, v143, v144, v145, v146, v147, v148, v149, v150, v151, v152, v153, v154, v155, v156, v157, v158, v159, v160, v161, v162, v163, v164, v165, v166, v167, v168, v169, v170, v171, v172, v173, v174, v175, v176, v177, v178, v179, v180, v181, v182, v183, v184, v185, v186, v187, v188, v189, v190, v191, v192, v193, v194, v195, v196, v197, v198, v199, v200, u201, u202, u203, u204, u205, u206, u207, u208, u209, u210, u211, u212, u213, u214, u215, u216, v217, v218, v219, v220, v221, v222, v223, v224, v225, v226, v227, v228, v229, v230, v231, v232, v233, v234, v235, v236, v237, v238, v239, v240, v241, v242, v243, v244, v245, v246, v247, v248, v249, v250, v251, v252, v253, v254, v255, v256, v257, v258, v259, v260, v261, v262, v263, v264, v265, v266, v267, v268], []⟩ wx)) :
    Code.wp Try.prog ((Try.f5.body.bind (regionAt 48)).getD .skip) (Exit.then K fun _ _ _ => False) ⟨#[v0, .slice (some ⟨b, off, none⟩) n sc, v2, v3, v4, v5, v6, .pointer (some ⟨C, 0, none⟩), v8, v9, v10, v11, .int .i64 (last : Int), .int .i64 (i : Int), v14, v15, v16, v17, v18, v19, v20, v21, v22, .pointer (some ⟨T23, 0, none⟩), v24, v25, v26, v27, v28, v29, v30, v31, v32, v33, v34, v35, v36, v37, v38, v39, v40, v41, v42, v43, v44, v45, v46, v47, v48, v49, v50, v51, v52, v53, v54, v55, v56, v57, v58, v59, v60, v61, v62, v63, v64, v65, v66, v67, v68, v69, v70, v71, v72, v73, v74, v75, v76, v77, v78, v79, v80, v81, v82, v83, v84, v85, v86, v87, v88, v89, v90, v91, v92, v93, v94, v95, v96, v97, v98, v99, v100, v101, v102, v103, v104, v105, v106, v107, v108, v109, v110, v111, v112, v113, v114, v115, v116, v117, v118, v119, v120, v121, v122, v123, v124, v125, v126, v127, v128, v129, v130, v131, v132, v133, v134, v135, v136, v137, v138, v139, v140, v141, v142, v143, v144, v145, v146, v147, v148, v149, v150, v151, v152, v153, v154, v155, v156, v157, v158, v159, v160, v161, v162, v163, v164, v165, v166, v167, v168, v169, v170, v171, v172, v173, v174, v175, v176, v177, v178, v179, v180, v181, v182, v183, v184, v185, v186, v187, v188, v189, v190, v191, v192, v193, v194, v195, v196, v197, v198, v199, v200, v201, v202, v203, v204, v205, v206, v207, v208, v209, v210, v211, v212, v213, v214, v215, v216, v217, v218, v219, v220, v221, v222, v223, v224, v225, v226, v227, v228, v229, v230, v231, v232, v233, v234, v235, v236, v237, v238, v239, v240, v241, v242, v243, v244, v245, v246, v247, v248, v249, v250, v251, v252, v253, v254, v255, v256, v257, v258, v259, v260, v261, v262, v263, v264, v265, v266, v267, v268], []⟩ W := by
  conv => arg 2; whnf
  have hp3 : p3 < 3 := by omega
  have KP : Hid (∀ w1, Calls Try.prog 31 #[.int .i64 tok, .int .i64 3] w1 fun e w2 => e = .returned (.int .i64 (p3 : Int)) ∧ w1 = w2) := fun w1 => by rw [← hp]; exact pickC_law tok 3 w1 (by omega) (by omega) htok
  obtain ⟨ka, kc, rfl, _, _⟩ := Hkeys.out.slice
  obtain ⟨kn, hkn⟩ := hide keys.length
  have KA : Hid (∀ m, Calls Try.prog 36 #[.pointer (some ⟨C, 0, none⟩), .int .i64 ((last : Int) - (p3 : Int)), .int .i64 err, vRes kd val ver (.slice ka keys.length kc)] (W.drewN m) fun e' w' => e' = .returned (.tuple #[]) ∧ CliX w' C (answerC c2 ((last : Int) - (p3 : Int)) err kd ver) ∧ Chg (OnlyC C) (W.drewN m) w') :=
    fun m => answer_law c2 N _ err kd val ver _ keys G (W.drewN m) C (HS.out.x.new (below_drewN (Below.refl _ _) m)) HO.out hN hk1 hk5 hv (Hkeys.out.frame (Plain.good _) (Agree.drewN _ _ m)) hkl hFC
  rw [hkn.out] at KA HT
  have r0 := cell_n HT.out 0 (v := .int .i64 kd) rfl
  have r1 := cell_n HT.out 1 (v := str val) rfl
  have r2 := cell_n HT.out 2 (v := .int .i64 (ver : Int)) rfl
  have r3 := cell_n HT.out 3 (v := .slice ka kn kc) rfl
  have hwr : IntKind.i64.wrap ((last : Int) - (p3 : Int)) = (last : Int) - (p3 : Int) := IntWalk.i64_in _ (by omega)
  have hTC : T23 ≠ C := by obtain ⟨g, cap, wv, rv, hB, _⟩ := HS.out.x.ex; exact notC hB HT.out (by decide)
  have HbC := Lib.hid hbC
  have HTC := Lib.hid hTC
  have HS2 : Hid (∀ wx, CliX wx C (answerC c2 ((last : Int) - (p3 : Int)) err kd ver) → Chg (OnlyC C) W.drew wx → Cl0 w0 wx C A (answerC c2 ((last : Int) - (p3 : Int)) err kd ver) asked) := fun wx h1 h2 => (HS.out.new (below_drewN (Below.refl _ _) 1)).call h1 h2
  clear htok hp hk1 hk5 hv hkl hFC hN hbC hTC
  go_region_held3 (fun w' => w'.cell? ⟨b, off + i * 6, none⟩ = some (.int .i64 tok) ∧ w'.cell? ⟨b, off + i * 6 + 1, none⟩ = some (.int .i64 err) ∧ w'.cell? ⟨T23, 0, none⟩ = some (.int .i64 kd) ∧ w'.cell? ⟨T23, 1, none⟩ = some (str val) ∧ w'.cell? ⟨T23, 2, none⟩ = some (.int .i64 (ver : Int)) ∧ w'.cell? ⟨T23, 3, none⟩ = some (.slice ka kn kc)) (first | with_reducible exact ⟨e0, e1, r0, r1, r2, r3⟩ | with_reducible exact ⟨g0, g1, g2, g3, g4, g5⟩ | exact ⟨e0, e1, r0, r1, r2, r3⟩) (first
    | (go_at_call 31; refine (KP.out _).mono ?_; rintro e w2 ⟨rfl, rfl⟩)
    | (go_at_call 36; refine (KA.out 1).mono ?_; rintro e w2 ⟨rfl, hx2, hc2⟩; have Hx2 := Lib.hid hx2; have Hc2 := Lib.hid hc2; have g0 := (cell_keep hc2 HbC.out e0); have g1 := (cell_keep hc2 HbC.out e1); have g2 := (cell_keep hc2 HTC.out r0); have g3 := (cell_keep hc2 HTC.out r1); have g4 := (cell_keep hc2 HTC.out r2); have g5 := (cell_keep hc2 HTC.out r3); clear hx2 hc2))
  all_goals
    go_wp2_with fail
    first | ((refine HK.out _ _ _ _ _ _ _ _ _ _ _ _ _ _ _ _ _ ?_; exact ⟨HS2.out _ Hx2.out Hc2.out, (Chg.drew _ _).trans Hc2.out⟩)) | go_show
set_option maxHeartbeats 4000000 in
set_option maxRecDepth 100000 in
theorem piece_fresh {v0 v2 v3 v4 v5 v6 v7 v8 v9 v10 v11 v12 v14 v15 v16 v17 v20 v21 v22 v23 v24 v25 v26 v27 v28 v29 v30 v31 v32 v33 v34 v35 v36 v37 v38 v39 v40 v41 v42 v43 v44 v45 v46 v47 v48 v49 v50 v51 v52 v53 v54 v55 v56 v57 v58 v59 v60 v61 v62 v63 v64 v65 v66 v67 v68 v69 v70 v71 v72 v73 v74 v75 v76 v77 v78 v79 v80 v81 v82 v83 v84 v85 v86 v87 v88 v89 v90 v91 v92 v93 v94 v95 v96 v97 v98 v99 v100 v101 v102 v103 v104 v105 v106 v107 v108 v109 v110 v111 v112 v113 v114 v115 v116 v117 v118 v119 v120 v121 v122 v123 v124 v125 v126 v127 v128 v129 v130 v131 v132 v133 v134 v135 v136 v137 v138 v139 v140 v141 v142 v143 v144 v145 v146 v147 v148 v149 v150 v151 v152 v153 v154 v155 v156 v157 v158 v159 v160 v161 v162 v163 v164 v165 v166 v167 v168 v169 v170 v171 v172 v173 v174 v175 v176 v177 v178 v179 v180 v181 v182 v183 v184 v185 v186 v187 v188 v189 v190 v191 v192 v193 v194 v195 v196 v197 v198 v199 v200 v201 v202 v203 v204 v205 v206 v207 v208 v209 v210 v211 v212 v213 v214 v215 v216 v217 v218 v219 v220 v221 v222 v223 v224 v225 v226 v227 v228 v229 v230 v231 v232 v233 v234 v235 v236 v237 v238 v239 v240 v241 v242 v243 v244 v245 v246 v247 v248 v249 v250 v251 v252 v253 v254 v255 v256 v257 v258 v259 v260 v261 v262 v263 v264 v265 v266 v267 v268 : Value} (n sc b off i T18 acl p3 : Nat) (W : World) (tok err : Int) (bi : Bool)
    (hi : (i : Int) < (n : Int)) (e0 : W.cell? ⟨b, off + i * 6, none⟩ = some (.int .i64 tok)) (e1 : W.cell? ⟨b, off + i * 6 + 1, none⟩ = some (.int .i64 err))
    (e2 : W.cell? ⟨T18, 2, none⟩ = some (.int .i64 (acl : Int))) (htok : i64c tok) (hp : tok % 3 = (p3 : Int))
    (K : Act → World → Prop)
    (HK : Hid (∀ (u26 u224 u225 u226 u227 u228 u229 u230 u231 u232 u233 u234 u235 u236 u237 u238 u239 u240 u241 u242 u243 u244 u245 u246 u247 : Value) (wx : World), (∃ fr : Bool, u26 = .bool fr ∧ (fr = true → bi = true ∧ acl ≠ 0 ∧ p3 = 0 ∧ err = 0)) ∧ wx = W → K ⟨#[v0, .slice (some ⟨b, off, none⟩) n sc, v2, v3, v4, v5, v6, v7, v8, v9, v10, v11, v12, .int .i64 (i : Int), v14, v15, v16, v17, .pointer (some ⟨T18, 0, none⟩), .bool bi, v20, v21, v22, v23, v24, v25, u26, v27, v28, v29, v30, v31, v32, v33, v34, v35, v36, v37, v38, v39, v40, v41, v42, v43, v44, v45, v46, v47, v48, v49, v50, v51, v52, v53, v54, v55, v56, v57, v58, v59, v60, v61, v62, v63, v64, v65, v66, v67, v68, v69, v70, v71, v72, v73, v74, v75, v76, v77, v78, v79, v80, v81, v82, v83, v84, v85, v86, v87, v88, v89, v90, v91, v92, v93, v94, v95, v96, v97, v98, v99, v100, v101, v102, v103, v104, v105, v106, v107, v108, v109, v110, v111, v112, v113, v114, v115, v116, v117, v118, v119, v120, v121, v122, v123, v124, v125, v126, v127, v128, v129, v130, v131, v132, v133, v134, v135, v136, v137, v138, v139, v140, v141, v142, v143, v144, v145, v146, v147, v148, v149, v150, v151, v152, v153, v154, v155, v156, v157, v158, v159, v160, v161, v162, v163, v164, v165, v166, v167, v168, v169, v170, v171, v172, v173, v174, v175, v176, v177, v178, v179, v180, v181, v182, v183, v184, v185, v186, v187, v188, v189, v190, v191, v192, v193, v194, v195, v196, v197, v198, v199, v200, v201, v202, v203, v204, v205, v206, v207, v208, v209, v210, v211, v212, v213, v214, v215, v216, v217, v218, v219, v220, v221, v222, v223, u224, u225, u226, u227, u228, u229, u230, u231, u232, u233, u234, u235, u236, u237, u238, u239, u240, u241, u242, u243, u244, u245, u246, u247, v248, v249, v250, v251, v252, v253, v254, v255, v256, v257, v258, v259, v260, v261, v262, v263, v264, v265, v266, v267, v268], []⟩ wx)) :
    Code.wp Try.prog ((Try.f5.body.bind (regionAt 51)).getD .skip) (Exit.then K fun _ _ _ => False) ⟨#[v0, .slice (some ⟨b, off, none⟩) n sc, v2, v3, v4, v5, v6, v7, v8, v9, v10, v11, v12, .int .i64 (i : Int), v14, v15, v16, v17, .pointer (some ⟨T18, 0, none⟩), .bool bi, v20, v21, v22, v23, v24, v25, v26, v27, v28, v29, v30, v31, v32, v33, v34, v35, v36, v37, v38, v39, v40, v41, v42, v43, v44, v45, v46, v47, v48, v49, v50, v51, v52, v53, v54, v55, v56, v57, v58, v59, v60, v61, v62, v63, v64, v65, v66, v67, v68, v69, v70, v71, v72, v73, v74, v75, v76, v77, v78, v79, v80, v81, v82, v83, v84, v85, v86, v87, v88, v89, v90, v91, v92, v93, v94, v95, v96, v97, v98, v99, v100, v101, v102, v103, v104, v105, v106, v107, v108, v109, v110, v111, v112, v113, v114, v115, v116, v117, v118, v119, v120, v121, v122, v123, v124, v125, v126, v127, v128, v129, v130, v131, v132, v133, v134, v135, v136, v137, v138, v139, v140, v141, v142, v143, v144, v145, v146, v147, v148, v149, v150, v151, v152, v153, v154, v155, v156, v157, v158, v159, v160, v161, v162, v163, v164, v165, v166, v167, v168, v169, v170, v171, v172, v173, v174, v175, v176, v177, v178, v179, v180, v181, v182, v183, v184, v185, v186, v187, v188, v189, v190, v191, v192, v193, v194, v195, v196, v197, v198, v199, v200, v201, v202, v203, v204, v205, v206, v207, v208, v209, v210, v211, v212, v213, v214, v215, v216, v217, v218, v219, v220, v221, v222, v223, v224, v225, v226, v227, v228, v229, v230, v231, v232, v233, v234, v235, v236, v237, v238, v239, v240, v241, v242, v243, v244, v245, v246, v247, v248, v249, v250, v251, v252, v253, v254, v255, v256, v257, v258, v259, v260, v261, v262, v263, v264, v265, v266, v267, v268], []⟩ W := by
  conv => arg 2; whnf
  have hp3 : p3 < 3 := by omega
  have KP : Hid (∀ w1, Calls Try.prog 31 #[.int .i64 tok, .int .i64 3] w1 fun e w2 => e = .returned (.int .i64 (p3 : Int)) ∧ w1 = w2) := fun w1 => by rw [← hp]; exact pickC_law tok 3 w1 (by omega) (by omega) htok
  clear htok hp
  cases bi
  · go_wp2_with fail
    (refine HK.out _ _ _ _ _ _ _ _ _ _ _ _ _ _ _ _ _ _ _ _ _ _ _ _ _ _ ?_; exact ⟨⟨false, rfl, fun h => by cases h⟩, rfl⟩)
  by_cases h1 : acl = 0
  · have t1 : ((acl : Int) != 0) = false := by rw [h1]; rfl
    clear h1
    go_wp2_with fail
    (refine HK.out _ _ _ _ _ _ _ _ _ _ _ _ _ _ _ _ _ _ _ _ _ _ _ _ _ _ ?_; exact ⟨⟨false, rfl, fun h => by cases h⟩, rfl⟩)
  have t1 : ((acl : Int) != 0) = true := by rw [bne_iff_ne]; omega
  have H1 := Lib.hid h1
  clear h1
  by_cases h2 : p3 = 0
  · have t2 : ((p3 : Int) == 0) = true := by rw [h2]; rfl
    have H2 := Lib.hid h2
    clear h2
    by_cases h3 : err = 0
    · have t3 : (err == 0) = true := by rw [h3]; rfl
      have H3 := Lib.hid h3
      clear h3
      go_wp2_with (go_at_call 31; refine (KP.out _).mono ?_; rintro e w2 ⟨rfl, rfl⟩)
      (refine HK.out _ _ _ _ _ _ _ _ _ _ _ _ _ _ _ _ _ _ _ _ _ _ _ _ _ _ ?_; exact ⟨⟨true, rfl, fun _ => ⟨by first | trivial | rfl, H1.out, H2.out, H3.out⟩⟩, rfl⟩)
    · have t3 : (err == 0) = false := beq_eq_false_iff_ne.2 h3
      clear h3
      go_wp2_with (go_at_call 31; refine (KP.out _).mono ?_; rintro e w2 ⟨rfl, rfl⟩)
      (refine HK.out _ _ _ _ _ _ _ _ _ _ _ _ _ _ _ _ _ _ _ _ _ _ _ _ _ _ ?_; exact ⟨⟨false, rfl, fun h => by cases h⟩, rfl⟩)
  · have t2 : ((p3 : Int) == 0) = false := beq_eq_false_iff_ne.2 (by omega)
    clear h2
    go_wp2_with (go_at_call 31; refine (KP.out _).mono ?_; rintro e w2 ⟨rfl, rfl⟩)
    (refine HK.out _ _ _ _ _ _ _ _ _ _ _ _ _ _ _ _ _ _ _ _ _ _ _ _ _ _ ?_; exact ⟨⟨false, rfl, fun h => by cases h⟩, rfl⟩)
end Go.Proofs.Ytckclacdmpcpbaa
