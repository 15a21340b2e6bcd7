/-
  TrackExact: the law: a round's end: Plan.
-/
import Derived.Test.YtgdmcbjlfnjhjaaTya
import Derived.Deep.DeepCutAuto
import Derived.Deep.CutRange
import Derived.BigQuiet
import Derived.Lib.QuietBelow
namespace Go.Proofs.Ytgdmcbjlfnjhjaa
open Go.RowKit Wm Mm Lg
set_option linter.unusedVariables false
set_option linter.unusedSimpArgs false

/-- going on, or leaving a block, comes to the same -/
def Leave (n : Nat) (K : Act → World → Prop) : Exit → Act → World → Prop
  | .exit m, a, w => m = n ∧ K a w
  | _, _, _ => False
theorem piece_block {P : Program} {c : Code} {K : Act → World → Prop} {Q : Exit → Act → World → Prop} {n : Nat} {a : Act} {w : World} (h : c.wp P (Exit.then K (Leave n K)) a w) : c.wp P (Exit.inBlock n (Exit.then K Q)) a w := by
  refine wp_mono h ?_
  intro e a' w' hq
  cases e with
  | normal => exact hq
  | exit id =>
    obtain ⟨h1, h2⟩ := hq
    subst h1
    show (if id = id then _ else _)
    rw [if_pos rfl]
    exact h2
  | goto l => exact hq.elim
  | ret => exact hq.elim
  | panic ch => exact hq.elim
  | outgrown => exact hq.elim
set_option maxHeartbeats 4000000 in
set_option maxRecDepth 100000 in
theorem track_plans {v0 v2 v3 v4 v5 v6 v7 v8 v9 v11 v12 v13 v14 v15 v16 v17 v19 v20 v21 v22 v24 v25 v26 v27 v28 v29 v30 v31 v33 v34 v35 v36 v37 v38 v39 v40 v41 v42 v43 v44 v45 v46 v47 v48 v49 v50 v51 v52 v53 v54 v55 v56 v57 v58 v59 v60 v61 v62 v63 v64 v65 v66 v67 v68 v69 v70 v71 v72 v73 v74 v75 v76 v77 v78 v79 v80 v81 v82 v83 v84 v85 v86 v87 v88 v89 v90 v91 v92 v93 v94 v95 v96 v97 v98 v99 v100 v101 v102 v103 v104 v105 v106 v107 v108 v109 v110 v111 v112 v113 v114 v115 v116 v117 v118 v119 v120 v121 v122 v123 v124 v125 v126 v127 v128 v129 v130 v131 v132 v133 v134 v135 v136 v137 v138 v139 v140 v141 v142 v143 v144 v145 v146 v147 v148 v149 v150 v151 v152 v153 v154 v155 v156 v157 v158 v159 v160 v161 v162 v163 v164 v165 v166 v167 v168 v169 v170 v171 v172 v173 v174 v175 v176 v177 v178 v179 v180 v181 v182 v183 v184 v185 v186 v187 v188 v189 v190 v191 v192 v193 v194 v195 v196 v197 v198 v199 v200 v201 v202 v203 v204 v205 v206 v207 v208 v209 v210 v211 v212 v213 v214 v215 v216 v217 v218 v219 v220 v221 v222 v223 v224 v225 v226 v227 v228 v229 v230 v231 v232 v233 v234 v235 v236 v237 v238 v239 v240 v241 v242 v243 v244 v245 v246 v247 v248 v249 v250 v251 v252 v253 v254 v255 v256 v257 v258 v259 v260 v261 v262 v263 v264 v265 v266 v267 v268 v269 v270 v271 v272 v273 v274 v275 v276 v277 v278 v279 v280 v281 v282 v283 v284 v285 v286 v287 v288 v289 v290 v291 v292 v293 v294 v295 v296 v297 v298 v299 v300 v301 v302 v303 v304 v305 v306 v307 v308 v309 v310 v311 v312 v313 v314 v315 v316 v317 v318 v319 v320 v321 v322 v323 v324 v325 v326 v327 v328 v329 v330 v331 v332 v333 v334 v335 v336 v337 v338 v339 v340 v341 v342 v343 v344 v345 : Value} (L Z : Nat) (ev : Value) (es : List EntP) (known : List ProgP) (kv xv : Value) (base bt : Int) (zo : Option Addr) (zc : Nat) (W : World) (HX : Hid (∀ w', Below W.heap.size W w' → Tf2 L Z ev es known kv xv base bt zo zc w')) (hok : Hid (Ok base es))
    (b off n kcap k : Nat) (hkn : k < n) (hnn : n ≤ 2932031007317) (p : ProgP) (hpn : p.nxt ≤ 1099511627775) (HM : Hid (∀ w', Below W.heap.size W w' → w'.cell? ⟨b, off + k * 6, none⟩ = some (.int .i64 p.node) ∧ w'.cell? ⟨b, off + k * 6 + 1, none⟩ = some (.int .i64 p.mtch) ∧ w'.cell? ⟨b, off + k * 6 + 2, none⟩ = some (.int .i64 p.nxt) ∧ w'.cell? ⟨b, off + k * 6 + 3, none⟩ = some (.int .i64 p.state) ∧ w'.cell? ⟨b, off + k * 6 + 4, none⟩ = some (.bool p.active) ∧ w'.cell? ⟨b, off + k * 6 + 5, none⟩ = some (.int .i64 p.heard)))
    (V : World) (HV : Hid (Below W.heap.size W V))
    (K : Act → World → Prop)
    (HK : Hid (∀ (u38 u39 u40 u41 u42 u43 u44 u45 u223 u224 u225 u226 u227 u228 u229 u230 u231 u232 u233 u234 u235 u236 u237 u238 u239 u240 u241 u242 u243 u244 u245 u246 u247 u248 u249 u250 u251 u252 u253 u254 u255 u256 u257 u258 u259 u260 u261 u262 u263 u264 u265 u266 u267 u268 u269 u270 u271 u272 u273 u274 u275 u276 u277 u278 u279 u280 u281 u282 u283 u284 u285 u286 u287 u288 u289 u290 u291 u292 u293 u294 u295 u296 u297 u298 u299 u300 u301 u302 u303 u304 u305 u306 u307 u308 u309 u310 u311 u312 : Value) (wx : World), Hid (Below W.heap.size W wx) → K ⟨#[v0, .slice (some ⟨b, off, none⟩) n kcap, v2, v3, v4, v5, v6, v7, v8, v9, .pointer (some ⟨L, 0, none⟩), v11, v12, v13, v14, v15, v16, v17, xv, v19, v20, v21, v22, .pointer (some ⟨Z, 0, none⟩), v24, v25, v26, v27, v28, v29, v30, v31, .int .i64 (k : Int), v33, v34, v35, v36, v37, u38, u39, u40, u41, u42, u43, u44, u45, v46, v47, v48, v49, v50, v51, v52, v53, v54, v55, v56, v57, v58, v59, v60, v61, v62, v63, v64, v65, v66, v67, v68, v69, v70, v71, v72, v73, v74, v75, v76, v77, v78, v79, v80, v81, v82, v83, v84, v85, v86, v87, v88, v89, v90, v91, v92, v93, v94, v95, v96, v97, v98, v99, v100, v101, v102, v103, v104, v105, v106, v107, v108, v109, v110, v111, v112, v113, v114, v115, v116, v117, v118, v119, v120, v121, v122, v123, v124, v125, v126, v127, v128, v129, v130, v131, v132, v133, v134, v135, v136, v137, v138, v139, v140, v141, v142, v143, v144, v145, v146, v147, v148, v149, v150, v151, v152, v153, v154, v155, v156, v157, v158, v159, v160, v161, v162, v163, v164, v165, v166, v167, v168, v169, v170, v171, v172, v173, v174, v175, v176, v177, v178, v179, v180, v181, v182, v183, v184, v185, v186, v187, v188, v189, v190, v191, v192, v193, v194, v195, v196, v197, v198, v199, v200, v201, v202, v203, v204, v205, v206, v207, v208, v209, v210, v211, v212, v213, v214, v215, v216, v217, v218, v219, v220, v221, v222, u223, u224, u225, u226, u227, u228, u229, u230, u231, u232, u233, u234, u235, u236, u237, u238, u239, u240, u241, u242, u243, u244, u245, u246, u247, u248, u249, u250, u251, u252, u253, u254, u255, u256, u257, u258, u259, u260, u261, u262, u263, u264, u265, u266, u267, u268, u269, u270, u271, u272, u273, u274, u275, u276, u277, u278, u279, u280, u281, u282, u283, u284, u285, u286, u287, u288, u289, u290, u291, u292, u293, u294, u295, u296, u297, u298, u299, u300, u301, u302, u303, u304, u305, u306, u307, u308, u309, u310, u311, u312, v313, v314, v315, v316, v317, v318, v319, v320, v321, v322, v323, v324, v325, v326, v327, v328, v329, v330, v331, v332, v333, v334, v335, v336, v337, v338, v339, v340, v341, v342, v343, v344, v345], []⟩ wx)) :
    Code.wp Try.prog ((Try.f5.body.bind (seqAt 35)).getD .skip) (Exit.then K (Leave 3 K)) ⟨#[v0, .slice (some ⟨b, off, none⟩) n kcap, v2, v3, v4, v5, v6, v7, v8, v9, .pointer (some ⟨L, 0, none⟩), v11, v12, v13, v14, v15, v16, v17, xv, v19, v20, v21, v22, .pointer (some ⟨Z, 0, none⟩), v24, v25, v26, v27, v28, v29, v30, v31, .int .i64 (k : Int), v33, v34, v35, v36, v37, v38, v39, v40, v41, v42, v43, v44, v45, v46, v47, v48, v49, v50, v51, v52, v53, v54, v55, v56, v57, v58, v59, v60, v61, v62, v63, v64, v65, v66, v67, v68, v69, v70, v71, v72, v73, v74, v75, v76, v77, v78, v79, v80, v81, v82, v83, v84, v85, v86, v87, v88, v89, v90, v91, v92, v93, v94, v95, v96, v97, v98, v99, v100, v101, v102, v103, v104, v105, v106, v107, v108, v109, v110, v111, v112, v113, v114, v115, v116, v117, v118, v119, v120, v121, v122, v123, v124, v125, v126, v127, v128, v129, v130, v131, v132, v133, v134, v135, v136, v137, v138, v139, v140, v141, v142, v143, v144, v145, v146, v147, v148, v149, v150, v151, v152, v153, v154, v155, v156, v157, v158, v159, v160, v161, v162, v163, v164, v165, v166, v167, v168, v169, v170, v171, v172, v173, v174, v175, v176, v177, v178, v179, v180, v181, v182, v183, v184, v185, v186, v187, v188, v189, v190, v191, v192, v193, v194, v195, v196, v197, v198, v199, v200, v201, v202, v203, v204, v205, v206, v207, v208, v209, v210, v211, v212, v213, v214, v215, v216, v217, v218, v219, v220, v221, v222, v223, v224, v225, v226, v227, v228, v229, v230, v231, v232, v233, v234, v235, v236, v237, v238, v239, v240, v241, v242, v243, v244, v245, v246, v247, v248, v249, v250, v251, v252, v253, v254, v255, v256, v257, v258, v259, v260, v261, v262, v263, v264, v265, v266, v267, v268, v269, v270, v271, v272, v273, v274, v275, v276, v277, v278, v279, v280, v281, v282, v283, v284, v285, v286, v287, v288, v289, v290, v291, v292, v293, v294, v295, v296, v297, v298, v299, v300, v301, v302, v303, v304, v305, v306, v307, v308, v309, v310, v311, v312, v313, v314, v315, v316, v317, v318, v319, v320, v321, v322, v323, v324, v325, v326, v327, v328, v329, v330, v331, v332, v333, v334, v335, v336, v337, v338, v339, v340, v341, v342, v343, v344, v345], []⟩ V := by
  conv => arg 2; whnf
  obtain ⟨eo, ecap, rfl, _, _⟩ := (HX.out _ HV.out).le.slice
  obtain ⟨z4, hz4⟩ := hide (decide (p.nxt < 1))
  obtain ⟨z5, hz5⟩ := hide (decide (base + (es.length : Int) + 1 < p.nxt))
  obtain ⟨z6, hz6⟩ := hide (decide (p.mtch < 0))
  obtain ⟨z7, hz7⟩ := hide (decide (p.nxt ≤ p.mtch))
  have t4 := hz4.out
  have t5 := hz5.out
  have t6 := hz6.out
  have t7 := hz7.out
  have t3 : decide (1099511627775 < p.nxt) = false := decide_eq_false (by omega)
  have x0 : V.cell? ⟨b, off + k * 6, none⟩ = some (.int .i64 p.node) := (HM.out _ HV.out).1
  have x1 : V.cell? ⟨b, off + k * 6 + 1, none⟩ = some (.int .i64 p.mtch) := (HM.out _ HV.out).2.1
  have x2 : V.cell? ⟨b, off + k * 6 + 2, none⟩ = some (.int .i64 p.nxt) := (HM.out _ HV.out).2.2.1
  have x3 : V.cell? ⟨b, off + k * 6 + 3, none⟩ = some (.int .i64 p.state) := (HM.out _ HV.out).2.2.2.1
  have x4 : V.cell? ⟨b, off + k * 6 + 4, none⟩ = some (.bool p.active) := (HM.out _ HV.out).2.2.2.2.1
  have x5 : V.cell? ⟨b, off + k * 6 + 5, none⟩ = some (.int .i64 p.heard) := (HM.out _ HV.out).2.2.2.2.2
  have y0 : V.cell? ⟨L, 0, none⟩ = some (.int .i64 base) := cell_n (HX.out _ HV.out).lg 0 rfl
  have y1 : V.cell? ⟨L, 1, none⟩ = some (.int .i64 bt) := cell_n (HX.out _ HV.out).lg 1 rfl
  have y2 : V.cell? ⟨L, 2, none⟩ = some (.slice eo es.length ecap) := cell_n (HX.out _ HV.out).lg 2 rfl
  have m0 := fun (dd : Nat) (os : Array Obj) => cell_regrown x0 dd os
  have m1 := fun (dd : Nat) (os : Array Obj) => cell_regrown x1 dd os
  have m2 := fun (dd : Nat) (os : Array Obj) => cell_regrown x2 dd os
  have m3 := fun (dd : Nat) (os : Array Obj) => cell_regrown x3 dd os
  have m4 := fun (dd : Nat) (os : Array Obj) => cell_regrown x4 dd os
  have m5 := fun (dd : Nat) (os : Array Obj) => cell_regrown x5 dd os
  have z0 := fun (dd : Nat) (os : Array Obj) => cell_regrown y0 dd os
  have z1 := fun (dd : Nat) (os : Array Obj) => cell_regrown y1 dd os
  have z2 := fun (dd : Nat) (os : Array Obj) => cell_regrown y2 dd os
  clear x0 x1 x2 x3 x4 x5 y0 y1 y2
  have n1 := hok.out.b0
  have n2 := hok.out.b1
  have n3 := hok.out.n
  have w1 : IntKind.i64.wrap (base + (es.length : Int)) = base + (es.length : Int) := IntWalk.i64_in _ (by omega)
  have w2 : IntKind.i64.wrap (base + (es.length : Int) + 1) = base + (es.length : Int) + 1 := IntWalk.i64_in _ (by omega)
  have i1 : (k : Int) < (n : Int) := by omega
  have HG : Hid (∀ (dd : Nat) (os : Array Obj), Hid (Below W.heap.size W (Sort.grow (redrawn V dd) os))) := fun dd os => HV.out.trans ((below_regrown V dd os).mono HV.out.size)
  clear n1 n2 n3
  cases z4 with
  | true =>
    clear t5 t6 t7
    go_upto_region 35 with fail
    try dsimp only
    refine wp_region_quiet_below (by kernel_rfl) (by kernel_rfl) ?_
    repeat (go_big_quiet_step (fail))
    refine wpQuiet_nil ?_
    intro _ hw'
    obtain ⟨⟨dq, osq⟩, hw''⟩ := hw'
    subst hw''
    go_wp2_with fail
    first
    | (refine HK.out _ _ _ _ _ _ _ _ _ _ _ _ _ _ _ _ _ _ _ _ _ _ _ _ _ _ _ _ _ _ _ _ _ _ _ _ _ _ _ _ _ _ _ _ _ _ _ _ _ _ _ _ _ _ _ _ _ _ _ _ _ _ _ _ _ _ _ _ _ _ _ _ _ _ _ _ _ _ _ _ _ _ _ _ _ _ _ _ _ _ _ _ _ _ _ _ _ _ _ ?_; exact HG.out _ _)
    | exact ⟨rfl, HK.out _ _ _ _ _ _ _ _ _ _ _ _ _ _ _ _ _ _ _ _ _ _ _ _ _ _ _ _ _ _ _ _ _ _ _ _ _ _ _ _ _ _ _ _ _ _ _ _ _ _ _ _ _ _ _ _ _ _ _ _ _ _ _ _ _ _ _ _ _ _ _ _ _ _ _ _ _ _ _ _ _ _ _ _ _ _ _ _ _ _ _ _ _ _ _ _ _ _ _ (HG.out _ _)⟩
  | false =>
    cases z5 with
    | true =>
      clear t6 t7
      go_upto_region 35 with fail
      try dsimp only
      refine wp_region_quiet_below (by kernel_rfl) (by kernel_rfl) ?_
      repeat (go_big_quiet_step (fail))
      refine wpQuiet_nil ?_
      intro _ hw'
      obtain ⟨⟨dq, osq⟩, hw''⟩ := hw'
      subst hw''
      go_wp2_with fail
      first
      | (refine HK.out _ _ _ _ _ _ _ _ _ _ _ _ _ _ _ _ _ _ _ _ _ _ _ _ _ _ _ _ _ _ _ _ _ _ _ _ _ _ _ _ _ _ _ _ _ _ _ _ _ _ _ _ _ _ _ _ _ _ _ _ _ _ _ _ _ _ _ _ _ _ _ _ _ _ _ _ _ _ _ _ _ _ _ _ _ _ _ _ _ _ _ _ _ _ _ _ _ _ _ ?_; exact HG.out _ _)
      | exact ⟨rfl, HK.out _ _ _ _ _ _ _ _ _ _ _ _ _ _ _ _ _ _ _ _ _ _ _ _ _ _ _ _ _ _ _ _ _ _ _ _ _ _ _ _ _ _ _ _ _ _ _ _ _ _ _ _ _ _ _ _ _ _ _ _ _ _ _ _ _ _ _ _ _ _ _ _ _ _ _ _ _ _ _ _ _ _ _ _ _ _ _ _ _ _ _ _ _ _ _ _ _ _ _ (HG.out _ _)⟩
    | false =>
      cases z6 with
      | true =>
        clear t7
        go_upto_region 35 with fail
        try dsimp only
        refine wp_region_quiet_below (by kernel_rfl) (by kernel_rfl) ?_
        repeat (go_big_quiet_step (fail))
        refine wpQuiet_nil ?_
        intro _ hw'
        obtain ⟨⟨dq, osq⟩, hw''⟩ := hw'
        subst hw''
        go_wp2_with fail
        first
        | (refine HK.out _ _ _ _ _ _ _ _ _ _ _ _ _ _ _ _ _ _ _ _ _ _ _ _ _ _ _ _ _ _ _ _ _ _ _ _ _ _ _ _ _ _ _ _ _ _ _ _ _ _ _ _ _ _ _ _ _ _ _ _ _ _ _ _ _ _ _ _ _ _ _ _ _ _ _ _ _ _ _ _ _ _ _ _ _ _ _ _ _ _ _ _ _ _ _ _ _ _ _ ?_; exact HG.out _ _)
        | exact ⟨rfl, HK.out _ _ _ _ _ _ _ _ _ _ _ _ _ _ _ _ _ _ _ _ _ _ _ _ _ _ _ _ _ _ _ _ _ _ _ _ _ _ _ _ _ _ _ _ _ _ _ _ _ _ _ _ _ _ _ _ _ _ _ _ _ _ _ _ _ _ _ _ _ _ _ _ _ _ _ _ _ _ _ _ _ _ _ _ _ _ _ _ _ _ _ _ _ _ _ _ _ _ _ (HG.out _ _)⟩
      | false =>
        cases z7 with
        | true =>
          go_upto_region 35 with fail
          try dsimp only
          refine wp_region_quiet_below (by kernel_rfl) (by kernel_rfl) ?_
          repeat (go_big_quiet_step (fail))
          refine wpQuiet_nil ?_
          intro _ hw'
          obtain ⟨⟨dq, osq⟩, hw''⟩ := hw'
          subst hw''
          go_wp2_with fail
          first
          | (refine HK.out _ _ _ _ _ _ _ _ _ _ _ _ _ _ _ _ _ _ _ _ _ _ _ _ _ _ _ _ _ _ _ _ _ _ _ _ _ _ _ _ _ _ _ _ _ _ _ _ _ _ _ _ _ _ _ _ _ _ _ _ _ _ _ _ _ _ _ _ _ _ _ _ _ _ _ _ _ _ _ _ _ _ _ _ _ _ _ _ _ _ _ _ _ _ _ _ _ _ _ ?_; exact HG.out _ _)
          | exact ⟨rfl, HK.out _ _ _ _ _ _ _ _ _ _ _ _ _ _ _ _ _ _ _ _ _ _ _ _ _ _ _ _ _ _ _ _ _ _ _ _ _ _ _ _ _ _ _ _ _ _ _ _ _ _ _ _ _ _ _ _ _ _ _ _ _ _ _ _ _ _ _ _ _ _ _ _ _ _ _ _ _ _ _ _ _ _ _ _ _ _ _ _ _ _ _ _ _ _ _ _ _ _ _ (HG.out _ _)⟩
        | false =>
          have hn1 : p.nxt ≤ base + (es.length : Int) + 1 := by have := of_decide_eq_false t5; omega
          have hm0 : 0 ≤ p.mtch := by have := of_decide_eq_false t6; omega
          have hm1 : p.mtch < p.nxt := by have := of_decide_eq_false t7; omega
          have KP : Hid (∀ w', Below W.heap.size W w' → Calls Try.prog 41 #[.agg (arrG p), vLog base bt (.slice zo es.length zc)] w' fun e w'' => e = .returned (.tuple #[.agg (arrG (planE p base (base + es.length)).1), .int .i64 (planE p base (base + es.length)).2.1, .int .i64 (planE p base (base + es.length)).2.2.1, .bool (planE p base (base + es.length)).2.2.2]) ∧ Below w'.heap.size w' w'') := fun w' h => plan_law p base bt _ es _ w' (HX.out _ h).zt hok.out hn1 hm0 hm1
          have KP2 : Hid (∀ w', Below W.heap.size W w' → Calls Try.prog 42 #[.agg (arrG p), vLog base bt (.slice eo es.length ecap)] w' fun e w'' => e = .returned (.tuple #[.agg (arrG (planE p base (base + es.length)).1), .int .i64 (planE p base (base + es.length)).2.1, .int .i64 (planE p base (base + es.length)).2.2.1, .bool (planE p base (base + es.length)).2.2.2]) ∧ Below w'.heap.size w' w'') := fun w' h => refPlan_law p base bt _ es _ w' (HX.out _ h).le hok.out hn1 hm0 hm1
          obtain ⟨pr, hpr⟩ := hide (planE p base (base + es.length)).1
          obtain ⟨j1, hj1⟩ := hide (planE p base (base + es.length)).2.1
          obtain ⟨j2, hj2⟩ := hide (planE p base (base + es.length)).2.2.1
          obtain ⟨yb, hyb⟩ := hide (planE p base (base + es.length)).2.2.2
          rw [hpr.out, hj1.out, hj2.out, hyb.out] at KP KP2
          clear hpr hj1 hj2 hyb hn1 hm0 hm1 hz4 hz5 hz6 hz7
          go_upto_region 35 with fail
          try dsimp only
          refine wp_region_quiet_below (by kernel_rfl) (by kernel_rfl) ?_
          repeat (go_big_quiet_step (fail))
          refine wpQuiet_nil ?_
          intro _ hw'
          obtain ⟨⟨dq, osq⟩, hw''⟩ := hw'
          subst hw''
          have HVd := HG.out dq osq
          obtain ⟨V5, hV5⟩ : ∃ U, U = Sort.grow (redrawn V dq) osq := ⟨_, rfl⟩
          rw [← hV5] at HVd ⊢
          clear hV5 t3 t4 t5 t6 t7 m0 m1 m2 m3 m4 m5 z0 z1 z2 w1 w2
          obtain ⟨Rel, hRel⟩ := hide (fun (C : Nat) (wx : World) => wx.heap[C]? = some (objG pr) ∧ Below V5.heap.size V5 wx)
          go_upto_region 36 with fail
          go_cut [38, 39, 40, 41] from 273 to 283 (fun pt i1 i2 b3 wx => ∃ C, pt = .pointer (some ⟨C, 0, none⟩) ∧ i1 = .int .i64 j1 ∧ i2 = .int .i64 j2 ∧ b3 = .bool yb ∧ Rel C wx)
          case first =>
            rename_i J0 K0 hJ0 hK0
            have Hd : Hid (Below V5.heap.size V5 V5.drew) := (Below.refl _ _).drew
            have HdW : Hid (Below W.heap.size W V5.drew) := HVd.out.trans (Hd.out.mono HVd.out.size)
            have m0 : V5.drew.cell? ⟨b, off + k * 6, none⟩ = some (.int .i64 p.node) := (HM.out _ HdW.out).1
            have m1 : V5.drew.cell? ⟨b, off + k * 6 + 1, none⟩ = some (.int .i64 p.mtch) := (HM.out _ HdW.out).2.1
            have m2 : V5.drew.cell? ⟨b, off + k * 6 + 2, none⟩ = some (.int .i64 p.nxt) := (HM.out _ HdW.out).2.2.1
            have m3 : V5.drew.cell? ⟨b, off + k * 6 + 3, none⟩ = some (.int .i64 p.state) := (HM.out _ HdW.out).2.2.2.1
            have m4 : V5.drew.cell? ⟨b, off + k * 6 + 4, none⟩ = some (.bool p.active) := (HM.out _ HdW.out).2.2.2.2.1
            have m5 : V5.drew.cell? ⟨b, off + k * 6 + 5, none⟩ = some (.int .i64 p.heard) := (HM.out _ HdW.out).2.2.2.2.2
            have z0 : V5.drew.cell? ⟨Z, 0, none⟩ = some (.int .i64 base) := cell_n (HX.out _ HdW.out).z 0 rfl
            have z1 : V5.drew.cell? ⟨Z, 1, none⟩ = some (.int .i64 bt) := cell_n (HX.out _ HdW.out).z 1 rfl
            have z2 : V5.drew.cell? ⟨Z, 2, none⟩ = some (.slice zo es.length zc) := cell_n (HX.out _ HdW.out).z 2 rfl
            have Ha : Hid (Below V5.heap.size V5 (V5.alloc (objG ⟨0, 0, 0, 0, false, 0⟩)).drew) := ((Below.refl _ _).alloc (Nat.le_refl _) _).drew
            have HaW : Hid (Below W.heap.size W (V5.alloc (objG ⟨0, 0, 0, 0, false, 0⟩)).drew) := HVd.out.trans (Ha.out.mono HVd.out.size)
            have n0 : (V5.alloc (objG ⟨0, 0, 0, 0, false, 0⟩)).drew.cell? ⟨b, off + k * 6, none⟩ = some (.int .i64 p.node) := (HM.out _ HaW.out).1
            have n1 : (V5.alloc (objG ⟨0, 0, 0, 0, false, 0⟩)).drew.cell? ⟨b, off + k * 6 + 1, none⟩ = some (.int .i64 p.mtch) := (HM.out _ HaW.out).2.1
            have n2 : (V5.alloc (objG ⟨0, 0, 0, 0, false, 0⟩)).drew.cell? ⟨b, off + k * 6 + 2, none⟩ = some (.int .i64 p.nxt) := (HM.out _ HaW.out).2.2.1
            have n3 : (V5.alloc (objG ⟨0, 0, 0, 0, false, 0⟩)).drew.cell? ⟨b, off + k * 6 + 3, none⟩ = some (.int .i64 p.state) := (HM.out _ HaW.out).2.2.2.1
            have n4 : (V5.alloc (objG ⟨0, 0, 0, 0, false, 0⟩)).drew.cell? ⟨b, off + k * 6 + 4, none⟩ = some (.bool p.active) := (HM.out _ HaW.out).2.2.2.2.1
            have n5 : (V5.alloc (objG ⟨0, 0, 0, 0, false, 0⟩)).drew.cell? ⟨b, off + k * 6 + 5, none⟩ = some (.int .i64 p.heard) := (HM.out _ HaW.out).2.2.2.2.2
            have y0 : (V5.alloc (objG ⟨0, 0, 0, 0, false, 0⟩)).drew.cell? ⟨Z, 0, none⟩ = some (.int .i64 base) := cell_n (HX.out _ HaW.out).z 0 rfl
            have y1 : (V5.alloc (objG ⟨0, 0, 0, 0, false, 0⟩)).drew.cell? ⟨Z, 1, none⟩ = some (.int .i64 bt) := cell_n (HX.out _ HaW.out).z 1 rfl
            have y2 : (V5.alloc (objG ⟨0, 0, 0, 0, false, 0⟩)).drew.cell? ⟨Z, 2, none⟩ = some (.slice zo es.length zc) := cell_n (HX.out _ HaW.out).z 2 rfl
            have HY : Hid (∀ V3, Below (V5.alloc (objG ⟨0, 0, 0, 0, false, 0⟩)).drew.heap.size (V5.alloc (objG ⟨0, 0, 0, 0, false, 0⟩)).drew V3 → V3.heap[V5.heap.size]? = some (objG ⟨0, 0, 0, 0, false, 0⟩)) := fun V3 hb => (hb.block _ (by show _ < (V5.alloc _).heap.size; simp)).trans (hp_at _ _ rfl)
            have Hz1 : Hid (∀ V3, Below (V5.alloc (objG ⟨0, 0, 0, 0, false, 0⟩)).drew.heap.size (V5.alloc (objG ⟨0, 0, 0, 0, false, 0⟩)).drew V3 → Rel V5.heap.size ((((((V3.setCell ⟨V5.heap.size, 0, none⟩ (.int .i64 pr.node)).setCell ⟨V5.heap.size, 1, none⟩ (.int .i64 pr.mtch)).setCell ⟨V5.heap.size, 2, none⟩ (.int .i64 pr.nxt)).setCell ⟨V5.heap.size, 3, none⟩ (.int .i64 pr.state)).setCell ⟨V5.heap.size, 4, none⟩ (.bool pr.active)).setCell ⟨V5.heap.size, 5, none⟩ (.int .i64 pr.heard))) := by
              show ∀ V3, _ → _
              intro V3 hb
              rw [← hRel.out]
              exact ⟨setAll_at (xs := [.int .i64 0, .int .i64 0, .int .i64 0, .int .i64 0, .bool false, .int .i64 0]) (HY.out _ hb) [.int .i64 pr.node, .int .i64 pr.mtch, .int .i64 pr.nxt, .int .i64 pr.state, .bool pr.active, .int .i64 pr.heard] rfl, setAll_below (Ha.out.trans (hb.mono Ha.out.size)) (Nat.le_refl _) [.int .i64 pr.node, .int .i64 pr.mtch, .int .i64 pr.nxt, .int .i64 pr.state, .bool pr.active, .int .i64 pr.heard]⟩
            have Hz2 : Hid (∀ V3, Below V5.drew.heap.size V5.drew V3 → Rel V3.heap.size (V3.alloc (objG pr))) := by
              show ∀ V3, _ → _
              intro V3 hb
              rw [← hRel.out]
              have h1 : Below V5.heap.size V5 V3 := Hd.out.trans hb
              exact ⟨hp_at _ _ rfl, h1.alloc h1.size _⟩
            go_region_with (first
              | (go_at_call 41; go_loud ((with_reducible refine (KP.out _ (by first | with_reducible exact HdW.out | with_reducible exact HaW.out)).mono ?_); rintro e V3 ⟨rfl, hb3⟩; have Hb3 := Lib.hid hb3; (first | have y3 := HY.out V3 (by with_reducible exact hb3) | skip); (first | (have g0 := free_n y3 0; have g1 := free_n y3 1; have g2 := free_n y3 2; have g3 := free_n y3 3; have g4 := free_n y3 4; have g5 := free_n y3 5; have h0 := cell_n y3 0 (v := .int .i64 0) rfl; have h1 := cell_n y3 1 (v := .int .i64 0) rfl; have h2 := cell_n y3 2 (v := .int .i64 0) rfl; have h3 := cell_n y3 3 (v := .int .i64 0) rfl; have h4 := cell_n y3 4 (v := .bool false) rfl; have h5 := cell_n y3 5 (v := .int .i64 0) rfl; clear y3) | skip); clear hb3)))
            all_goals
              go_wp2_with fail
              go_meet
              refine ⟨_, rfl, rfl, rfl, rfl, ?_⟩
              first
              | with_reducible exact Hz1.out _ Hb3.out
              | with_reducible exact Hz2.out _ Hb3.out
          case rest =>
            obtain ⟨C, rfl, rfl, rfl, rfl, hrel⟩ := hcut
            rw [← hRel.out] at hrel
            obtain ⟨V6, hV6⟩ : ∃ U, U = wc := ⟨_, rfl⟩
            subst hV6
            have HC := Lib.hid hrel.1
            have HV6 : Hid (Below W.heap.size W V6) := HVd.out.trans (hrel.2.mono HVd.out.size)
            clear hrel hRel
            obtain ⟨Rel, hRel⟩ := hide (fun (C : Nat) (wx : World) => wx.heap[C]? = some (objG pr) ∧ Below V6.heap.size V6 wx)
            go_upto_region 37 with fail
            go_cut [42, 43, 44, 45] from 284 to 294 (fun pt i1 i2 b3 wx => ∃ C, pt = .pointer (some ⟨C, 0, none⟩) ∧ i1 = .int .i64 j1 ∧ i2 = .int .i64 j2 ∧ b3 = .bool yb ∧ Rel C wx)
            case first =>
              rename_i J0 K0 hJ0 hK0
              have Hd : Hid (Below V6.heap.size V6 V6.drew) := (Below.refl _ _).drew
              have HdW : Hid (Below W.heap.size W V6.drew) := HV6.out.trans (Hd.out.mono HV6.out.size)
              have m0 : V6.drew.cell? ⟨b, off + k * 6, none⟩ = some (.int .i64 p.node) := (HM.out _ HdW.out).1
              have m1 : V6.drew.cell? ⟨b, off + k * 6 + 1, none⟩ = some (.int .i64 p.mtch) := (HM.out _ HdW.out).2.1
              have m2 : V6.drew.cell? ⟨b, off + k * 6 + 2, none⟩ = some (.int .i64 p.nxt) := (HM.out _ HdW.out).2.2.1
              have m3 : V6.drew.cell? ⟨b, off + k * 6 + 3, none⟩ = some (.int .i64 p.state) := (HM.out _ HdW.out).2.2.2.1
              have m4 : V6.drew.cell? ⟨b, off + k * 6 + 4, none⟩ = some (.bool p.active) := (HM.out _ HdW.out).2.2.2.2.1
              have m5 : V6.drew.cell? ⟨b, off + k * 6 + 5, none⟩ = some (.int .i64 p.heard) := (HM.out _ HdW.out).2.2.2.2.2
              have z0 : V6.drew.cell? ⟨L, 0, none⟩ = some (.int .i64 base) := cell_n (HX.out _ HdW.out).lg 0 rfl
              have z1 : V6.drew.cell? ⟨L, 1, none⟩ = some (.int .i64 bt) := cell_n (HX.out _ HdW.out).lg 1 rfl
              have z2 : V6.drew.cell? ⟨L, 2, none⟩ = some (.slice eo es.length ecap) := cell_n (HX.out _ HdW.out).lg 2 rfl
              have Ha : Hid (Below V6.heap.size V6 (V6.alloc (objG ⟨0, 0, 0, 0, false, 0⟩)).drew) := ((Below.refl _ _).alloc (Nat.le_refl _) _).drew
              have HaW : Hid (Below W.heap.size W (V6.alloc (objG ⟨0, 0, 0, 0, false, 0⟩)).drew) := HV6.out.trans (Ha.out.mono HV6.out.size)
              have n0 : (V6.alloc (objG ⟨0, 0, 0, 0, false, 0⟩)).drew.cell? ⟨b, off + k * 6, none⟩ = some (.int .i64 p.node) := (HM.out _ HaW.out).1
              have n1 : (V6.alloc (objG ⟨0, 0, 0, 0, false, 0⟩)).drew.cell? ⟨b, off + k * 6 + 1, none⟩ = some (.int .i64 p.mtch) := (HM.out _ HaW.out).2.1
              have n2 : (V6.alloc (objG ⟨0, 0, 0, 0, false, 0⟩)).drew.cell? ⟨b, off + k * 6 + 2, none⟩ = some (.int .i64 p.nxt) := (HM.out _ HaW.out).2.2.1
              have n3 : (V6.alloc (objG ⟨0, 0, 0, 0, false, 0⟩)).drew.cell? ⟨b, off + k * 6 + 3, none⟩ = some (.int .i64 p.state) := (HM.out _ HaW.out).2.2.2.1
              have n4 : (V6.alloc (objG ⟨0, 0, 0, 0, false, 0⟩)).drew.cell? ⟨b, off + k * 6 + 4, none⟩ = some (.bool p.active) := (HM.out _ HaW.out).2.2.2.2.1
              have n5 : (V6.alloc (objG ⟨0, 0, 0, 0, false, 0⟩)).drew.cell? ⟨b, off + k * 6 + 5, none⟩ = some (.int .i64 p.heard) := (HM.out _ HaW.out).2.2.2.2.2
              have y0 : (V6.alloc (objG ⟨0, 0, 0, 0, false, 0⟩)).drew.cell? ⟨L, 0, none⟩ = some (.int .i64 base) := cell_n (HX.out _ HaW.out).lg 0 rfl
              have y1 : (V6.alloc (objG ⟨0, 0, 0, 0, false, 0⟩)).drew.cell? ⟨L, 1, none⟩ = some (.int .i64 bt) := cell_n (HX.out _ HaW.out).lg 1 rfl
              have y2 : (V6.alloc (objG ⟨0, 0, 0, 0, false, 0⟩)).drew.cell? ⟨L, 2, none⟩ = some (.slice eo es.length ecap) := cell_n (HX.out _ HaW.out).lg 2 rfl
              have HY : Hid (∀ V3, Below (V6.alloc (objG ⟨0, 0, 0, 0, false, 0⟩)).drew.heap.size (V6.alloc (objG ⟨0, 0, 0, 0, false, 0⟩)).drew V3 → V3.heap[V6.heap.size]? = some (objG ⟨0, 0, 0, 0, false, 0⟩)) := fun V3 hb => (hb.block _ (by show _ < (V6.alloc _).heap.size; simp)).trans (hp_at _ _ rfl)
              have Hz1 : Hid (∀ V3, Below (V6.alloc (objG ⟨0, 0, 0, 0, false, 0⟩)).drew.heap.size (V6.alloc (objG ⟨0, 0, 0, 0, false, 0⟩)).drew V3 → Rel V6.heap.size ((((((V3.setCell ⟨V6.heap.size, 0, none⟩ (.int .i64 pr.node)).setCell ⟨V6.heap.size, 1, none⟩ (.int .i64 pr.mtch)).setCell ⟨V6.heap.size, 2, none⟩ (.int .i64 pr.nxt)).setCell ⟨V6.heap.size, 3, none⟩ (.int .i64 pr.state)).setCell ⟨V6.heap.size, 4, none⟩ (.bool pr.active)).setCell ⟨V6.heap.size, 5, none⟩ (.int .i64 pr.heard))) := by
                show ∀ V3, _ → _
                intro V3 hb
                rw [← hRel.out]
                exact ⟨setAll_at (xs := [.int .i64 0, .int .i64 0, .int .i64 0, .int .i64 0, .bool false, .int .i64 0]) (HY.out _ hb) [.int .i64 pr.node, .int .i64 pr.mtch, .int .i64 pr.nxt, .int .i64 pr.state, .bool pr.active, .int .i64 pr.heard] rfl, setAll_below (Ha.out.trans (hb.mono Ha.out.size)) (Nat.le_refl _) [.int .i64 pr.node, .int .i64 pr.mtch, .int .i64 pr.nxt, .int .i64 pr.state, .bool pr.active, .int .i64 pr.heard]⟩
              have Hz2 : Hid (∀ V3, Below V6.drew.heap.size V6.drew V3 → Rel V3.heap.size (V3.alloc (objG pr))) := by
                show ∀ V3, _ → _
                intro V3 hb
                rw [← hRel.out]
                have h1 : Below V6.heap.size V6 V3 := Hd.out.trans hb
                exact ⟨hp_at _ _ rfl, h1.alloc h1.size _⟩
              go_region_with (first
                | (go_at_call 42; go_loud ((with_reducible refine (KP2.out _ (by first | with_reducible exact HdW.out | with_reducible exact HaW.out)).mono ?_); rintro e V3 ⟨rfl, hb3⟩; have Hb3 := Lib.hid hb3; (first | have y3 := HY.out V3 (by with_reducible exact hb3) | skip); (first | (have g0 := free_n y3 0; have g1 := free_n y3 1; have g2 := free_n y3 2; have g3 := free_n y3 3; have g4 := free_n y3 4; have g5 := free_n y3 5; have h0 := cell_n y3 0 (v := .int .i64 0) rfl; have h1 := cell_n y3 1 (v := .int .i64 0) rfl; have h2 := cell_n y3 2 (v := .int .i64 0) rfl; have h3 := cell_n y3 3 (v := .int .i64 0) rfl; have h4 := cell_n y3 4 (v := .bool false) rfl; have h5 := cell_n y3 5 (v := .int .i64 0) rfl; clear y3) | skip); clear hb3)))
              all_goals
                go_wp2_with fail
                go_meet
                refine ⟨_, rfl, rfl, rfl, rfl, ?_⟩
                first
                | with_reducible exact Hz1.out _ Hb3.out
                | with_reducible exact Hz2.out _ Hb3.out
            case rest =>
              obtain ⟨C2, rfl, rfl, rfl, rfl, hrel⟩ := hcut
              rw [← hRel.out] at hrel
              obtain ⟨V7, hV7⟩ : ∃ U, U = wc := ⟨_, rfl⟩
              subst hV7
              have hc2 := hrel.1
              have hc1 := (hrel.2.block C (lt_of_block HC.out)).trans HC.out
              have HV7 : Hid (Below W.heap.size W V7) := HV6.out.trans (hrel.2.mono HV6.out.size)
              have c0 := cell_n hc1 0 (v := .int .i64 pr.node) rfl
              have c1 := cell_n hc1 1 (v := .int .i64 pr.mtch) rfl
              have c2 := cell_n hc1 2 (v := .int .i64 pr.nxt) rfl
              have c3 := cell_n hc1 3 (v := .int .i64 pr.state) rfl
              have c4 := cell_n hc1 4 (v := .bool pr.active) rfl
              have c5 := cell_n hc1 5 (v := .int .i64 pr.heard) rfl
              have d0 := cell_n hc2 0 (v := .int .i64 pr.node) rfl
              have d1 := cell_n hc2 1 (v := .int .i64 pr.mtch) rfl
              have d2 := cell_n hc2 2 (v := .int .i64 pr.nxt) rfl
              have d3 := cell_n hc2 3 (v := .int .i64 pr.state) rfl
              have d4 := cell_n hc2 4 (v := .bool pr.active) rfl
              have d5 := cell_n hc2 5 (v := .int .i64 pr.heard) rfl
              clear hrel hRel hc1 hc2
              go_wp2_with fail
              refine HK.out _ _ _ _ _ _ _ _ _ _ _ _ _ _ _ _ _ _ _ _ _ _ _ _ _ _ _ _ _ _ _ _ _ _ _ _ _ _ _ _ _ _ _ _ _ _ _ _ _ _ _ _ _ _ _ _ _ _ _ _ _ _ _ _ _ _ _ _ _ _ _ _ _ _ _ _ _ _ _ _ _ _ _ _ _ _ _ _ _ _ _ _ _ _ _ _ _ _ _ ?_
              exact HV7
end Go.Proofs.Ytgdmcbjlfnjhjaa
