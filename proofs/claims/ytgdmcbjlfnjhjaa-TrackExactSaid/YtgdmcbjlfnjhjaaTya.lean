/-
  TrackExact: the law: all is held still; what is known of each.
-/
import Derived.Test.YtgdmcbjlfnjhjaaTqb
import Derived.Test.YtgdmcbjlfnjhjaaTcn
import Derived.Test.YtgdmcbjlfnjhjaaTrj
import Derived.Test.YtgdmcbjlfnjhjaaTpb
import Derived.Test.YtgdmcbjlfnjhjaaLie
import Derived.Test.YtgdmcbjlfnjhjaaPce
import Derived.Deep.DeepCutAuto
import Derived.Deep.CutRange
import Derived.BigQuiet
import Derived.Lib.QuietBelow
namespace Go.Proofs.Ytgdmcbjlfnjhjaa
open Go.RowKit Wm Mm Lg
set_option linter.unusedVariables false
set_option linter.unusedSimpArgs false

/-- what the law goes on from behind the overwriting: the arguments, and the copies -/
structure Tf2 (L Z : Nat) (ev : Value) (es : List EntP) (known : List ProgP) (kv xv : Value) (base bt : Int) (zo : Option Addr) (zc : Nat) (w : World) : Prop where
  lg : w.heap[L]? = some (.cells (oLog base bt ev) 33 (0, 0))
  le : Ents (fun _ => True) w ev es
  kn : Prgs (fun _ => True) w kv known
  x : Prgs (fun _ => True) w xv known ∧ HeldG 0 w xv known
  z : w.heap[Z]? = some (.cells (oLog base bt (.slice zo es.length zc)) 33 (0, 0))
  ze : Ents (fun _ => True) w (.slice zo (es.length + 1) zc) (es ++ [e99])
theorem Tf2.zt {L Z : Nat} {ev : Value} {es : List EntP} {known : List ProgP} {kv xv : Value} {base bt : Int} {zo : Option Addr} {zc : Nat} {w : World} (h : Tf2 L Z ev es known kv xv base bt zo zc w) : Ents (fun _ => True) w (.slice zo es.length zc) es := by
  have := h.ze.take (k := es.length) (by simp)
  simpa using this
set_option maxHeartbeats 4000000 in
set_option maxRecDepth 100000 in
theorem track_end {v0 v2 v3 v4 v5 v6 v7 v8 v9 v11 v12 v13 v14 v15 v16 v17 v19 v20 v22 v24 v31 v32 v33 v34 v35 v36 v37 v38 v39 v40 v41 v42 v43 v44 v45 v46 v47 v48 v49 v50 v51 v52 v53 v54 v55 v56 v57 v58 v59 v60 v61 v62 v63 v64 v65 v66 v67 v68 v69 v70 v71 v72 v73 v74 v75 v76 v77 v78 v79 v80 v81 v82 v83 v84 v85 v86 v87 v88 v89 v90 v91 v92 v93 v94 v95 v96 v97 v98 v99 v100 v101 v102 v103 v104 v105 v106 v107 v108 v109 v110 v111 v112 v113 v114 v115 v116 v117 v118 v119 v120 v121 v122 v123 v124 v125 v126 v127 v128 v129 v130 v131 v132 v133 v134 v135 v136 v137 v138 v139 v140 v141 v142 v143 v144 v145 v146 v147 v148 v149 v150 v151 v152 v153 v154 v155 v156 v157 v158 v159 v160 v161 v162 v163 v164 v165 v166 v167 v168 v169 v170 v171 v172 v173 v174 v175 v176 v177 v178 v179 v180 v181 v182 v183 v184 v185 v186 v187 v188 v189 v190 v191 v192 v193 v194 v195 v196 v197 v198 v199 v200 v201 v202 v203 v204 v205 v206 v207 v208 v209 v210 v211 v212 v213 v214 v215 v216 v217 v218 v219 v220 v221 v222 v223 v224 v225 v226 v227 v228 v229 v230 v231 v232 v233 v234 v235 v236 v237 v238 v239 v240 v241 v242 v243 v244 v245 v246 v247 v248 v249 v250 v251 v252 v253 v254 v255 v256 v257 v258 v259 v260 v261 v262 v263 v264 v265 v266 v267 v268 v269 v270 v271 v272 v273 v274 v275 v276 v277 v278 v279 v280 v281 v282 v283 v284 v285 v286 v287 v288 v289 v290 v291 v292 v293 v294 v295 v296 v297 v298 v299 v300 v301 v302 v303 v304 v305 v306 v307 v308 v309 v310 v311 v312 v313 v314 v315 v316 v317 v318 v319 v320 v321 v322 v323 v324 v325 v326 v327 v328 v329 v330 v331 v332 v333 v334 v335 v336 v337 v338 v339 v340 v341 v342 v343 v344 v345 : Value} (L Z : Nat) (ev : Value) (es : List EntP) (known : List ProgP) (kv xv : Value) (base bt : Int) (zo : Option Addr) (zc : Nat) (hkn : known.length ≤ 2932031007317)
(W : World) (post : Ending → World → Prop) (HP : Hid (∀ w', Below W.heap.size W w' → post (.returned (.bool true)) w')) (HX : Hid (∀ w', Below W.heap.size W w' → Tf2 L Z ev es known kv xv base bt zo zc w')) :
    Code.wp Try.prog ((Try.f5.body.bind (seqAt 40)).getD .skip) (bodyPost Try.prog Try.f5 post) ⟨#[v0, kv, v2, v3, v4, v5, v6, v7, v8, v9, .pointer (some ⟨L, 0, none⟩), v11, v12, v13, v14, v15, v16, v17, xv, v19, v20, .bool true, v22, .pointer (some ⟨Z, 0, none⟩), v24, .bool true, .bool true, .bool true, .bool true, .bool true, .bool true, v31, v32, v33, v34, v35, v36, v37, v38, v39, v40, v41, v42, v43, v44, v45, v46, v47, v48, v49, v50, v51, v52, v53, v54, v55, v56, v57, v58, v59, v60, v61, v62, v63, v64, v65, v66, v67, v68, v69, v70, v71, v72, v73, v74, v75, v76, v77, v78, v79, v80, v81, v82, v83, v84, v85, v86, v87, v88, v89, v90, v91, v92, v93, v94, v95, v96, v97, v98, v99, v100, v101, v102, v103, v104, v105, v106, v107, v108, v109, v110, v111, v112, v113, v114, v115, v116, v117, v118, v119, v120, v121, v122, v123, v124, v125, v126, v127, v128, v129, v130, v131, v132, v133, v134, v135, v136, v137, v138, v139, v140, v141, v142, v143, v144, v145, v146, v147, v148, v149, v150, v151, v152, v153, v154, v155, v156, v157, v158, v159, v160, v161, v162, v163, v164, v165, v166, v167, v168, v169, v170, v171, v172, v173, v174, v175, v176, v177, v178, v179, v180, v181, v182, v183, v184, v185, v186, v187, v188, v189, v190, v191, v192, v193, v194, v195, v196, v197, v198, v199, v200, v201, v202, v203, v204, v205, v206, v207, v208, v209, v210, v211, v212, v213, v214, v215, v216, v217, v218, v219, v220, v221, v222, v223, v224, v225, v226, v227, v228, v229, v230, v231, v232, v233, v234, v235, v236, v237, v238, v239, v240, v241, v242, v243, v244, v245, v246, v247, v248, v249, v250, v251, v252, v253, v254, v255, v256, v257, v258, v259, v260, v261, v262, v263, v264, v265, v266, v267, v268, v269, v270, v271, v272, v273, v274, v275, v276, v277, v278, v279, v280, v281, v282, v283, v284, v285, v286, v287, v288, v289, v290, v291, v292, v293, v294, v295, v296, v297, v298, v299, v300, v301, v302, v303, v304, v305, v306, v307, v308, v309, v310, v311, v312, v313, v314, v315, v316, v317, v318, v319, v320, v321, v322, v323, v324, v325, v326, v327, v328, v329, v330, v331, v332, v333, v334, v335, v336, v337, v338, v339, v340, v341, v342, v343, v344, v345], []⟩ W := by
  conv => arg 2; whnf
  have H0 : Hid (Below W.heap.size W W) := Below.refl _ _
  have K := Lib.hid (heldProgresses_law xv kv 0 known _ W (HX.out _ H0.out).x.2 (HX.out _ H0.out).kn hkn)
  go_wp2_with fail
  refine K.out.mono ?_
  rintro e w1 ⟨rfl, hb⟩
  have H1 : Hid (Below W.heap.size W w1) := hb
  clear hb K
  have c2 : w1.cell? ⟨L, 2, none⟩ = some ev := cell_n (HX.out _ H1.out).lg 2 rfl
  have d2 : w1.cell? ⟨Z, 2, none⟩ = some (.slice zo es.length zc) := cell_n (HX.out _ H1.out).z 2 rfl
  have K := Lib.hid (law_heldEntries zo zc ev es _ _ w1 (HX.out _ H1.out).ze (HX.out _ H1.out).le)
  try dsimp only
  go_wp2_with fail
  refine K.out.mono ?_
  rintro e w2 ⟨rfl, hb⟩
  have Hq := Lib.hid (HP.out _ (H1.out.trans (hb.mono H1.out.size)))
  clear hb K c2 d2
  try dsimp only
  go_wp2_with fail
  first | exact Hq.out | (go_ret; exact Hq.out)
end Go.Proofs.Ytgdmcbjlfnjhjaa
