/-
  What was kept is there: a round of the law: what is kept, and the entry put behind the others.
-/
import Derived.Test.YtjlhlmnoomiblaaZ48
import Derived.Test.YtjlhlmnoomiblaaZ39
namespace Go.Proofs.Ytjlhlmnoomiblaa
open Go.RowKit Wm Mm Lg Fl
set_option linter.unusedVariables false
set_option linter.unusedSimpArgs false

set_option maxHeartbeats 4000000 in
set_option maxRecDepth 100000 in
theorem crash_app {v0 v2 v3 v4 v5 v6 v13 v16 v17 v18 v19 v20 v21 v22 v23 v24 v25 v26 v27 v28 v29 v30 v31 v32 v33 v34 v35 v36 v37 v38 v39 v40 v41 v42 v43 v44 v45 v46 v47 v48 v49 v50 v51 v52 v53 v54 v55 v56 v57 v58 v59 v60 v61 v62 v63 v64 v65 v66 v67 v68 v69 v70 v71 v72 v73 v74 v75 v76 v77 v78 v79 v80 v81 v82 v83 v84 v85 v86 v87 v88 v89 v90 v91 v92 v93 v94 v95 v96 v97 v98 v99 v100 v101 v102 v103 v104 v105 v106 v107 v108 v109 v110 v111 v112 v113 v114 v115 v116 v117 v118 v119 v120 v121 v122 v123 v124 v125 v126 v127 v128 v129 v130 v131 v132 v133 v134 v135 v136 v137 v138 v139 v140 v141 v142 v143 v144 v145 v146 v147 v148 v149 v150 v151 v152 v153 v154 v155 v156 v157 v158 v159 v160 v161 v162 v163 v164 v165 v166 v167 v168 v169 v170 v171 v172 v173 v174 v175 v176 v177 v178 v179 v180 v181 v182 v183 v184 v185 v186 v187 v188 v189 v190 v191 v192 v193 v194 v195 v196 v197 v198 v199 v200 v201 v202 v203 v204 v205 v206 v207 v208 v209 v210 v211 v212 v213 v214 v215 v216 v217 v218 v219 v220 v221 v222 v223 v224 v225 v226 v227 v228 v229 v230 v231 v232 v233 v234 v235 v236 v237 v238 v239 v240 v241 v242 v243 v244 v245 v246 v247 v248 v249 v250 v251 v252 v253 v254 v255 v256 v257 v258 v259 v260 v261 v262 v263 v264 v265 v266 v267 v268 v269 v270 v271 v272 v273 v274 v275 v276 v277 v278 v279 v280 v281 v282 v283 v284 v285 v286 v287 v288 v289 v290 v291 v292 v293 v294 v295 v296 v297 v298 v299 v300 v301 v302 v303 v304 v305 v306 v307 v308 : Value} (w W : World) (C P A X i : Nat) (k kw : Kp) (t v : Int) (b : UInt8) (s s1 old : List UInt8) (m1 m2 m3 : Option Addr) (mp1 mp2 mp3 : Nat) (ev x y z cx cy cz ew xw yw zw dx dy dz : Value) (so : Option Addr) (sc : Nat) (sn : List Int)
    (HQ : Hid (KpAt (FF P A) W P { k with t := t, v := v, c := endK k } ev x y z cx cy cz)) (HA : Hid (KpAt (FF P A) W A k ew xw yw zw dx dy dz)) (HX : Hid (W.heap[X]? = some (.cells #[.int .i64 (endK k + 1), .int .i64 t, .int .i64 1, str [b]] 37 (0, 0)))) 
    (HC : Hid (W.heap[C]? = some (.cells #[.slice m1 2 mp1, .slice m2 0 mp2, .slice m3 0 mp3] 24 (0, 0)))) (Hc : Hid (ConfG (FF P A) W (.slice m1 2 mp1) (.slice m2 0 mp2) (.slice m3 0 mp3) c12))
    (HW : Hid (Below w.heap.size w W)) (Hp : Hid (PlainSt i k kw s old)) (Hs1 : Hid (s1 = s ++ appB k t v b)) (Ht : Hid (1 ≤ t ∧ t ≤ i + 1 ∧ k.t ≤ t ∧ 0 ≤ v ∧ v ≤ 9)) (hi : i < 30)
    (HB : Hid (P ≠ A ∧ C ≠ P ∧ C ≠ A ∧ w.heap.size ≤ P ∧ w.heap.size ≤ A)) (HS : Hid (∀ w', Below w.heap.size w w' → Ints w' (.slice so sn.length sc) sn))
    (K : Act → World → Prop)
    (HK : Hid (∀ (u6 u9 u10 u17 u109 u110 u111 u112 u113 u114 u115 u116 u117 u118 u119 u120 u121 u122 u123 u124 u125 u126 u127 u128 u129 u130 u131 u132 u133 u134 u135 u136 u137 u138 u139 u140 u141 u142 u143 u144 u145 u146 u147 u148 u149 u150 u151 u152 u153 u154 u155 u156 u157 u158 u159 u160 u161 u162 u163 u164 u165 u166 u167 u168 u169 u170 u171 u172 u173 u174 u175 u176 u177 u178 u179 u180 u181 u182 u183 u184 u185 u186 u187 u188 u189 u190 u191 u192 u193 u194 u195 u196 u197 u198 u199 u200 u201 u202 : Value) (wx : World), RoundC w wx C P A (i + 1) u9 u10 m1 m2 m3 mp1 mp2 mp3 → K ⟨#[v0, .slice so sn.length sc, v2, v3, v4, v5, u6, .pointer (some ⟨C, 0, none⟩), .pointer (some ⟨P, 0, none⟩), u9, u10, .pointer (some ⟨A, 0, none⟩), .int .i64 (i : Int), v13, .int .i64 (endK k), .pointer (some ⟨X, 0, none⟩), v16, u17, v18, v19, v20, v21, v22, v23, v24, v25, v26, v27, v28, v29, v30, v31, v32, v33, v34, v35, v36, v37, v38, v39, v40, v41, v42, v43, v44, v45, v46, v47, v48, v49, v50, v51, v52, v53, v54, v55, v56, v57, v58, v59, v60, v61, v62, v63, v64, v65, v66, v67, v68, v69, v70, v71, v72, v73, v74, v75, v76, v77, v78, v79, v80, v81, v82, v83, v84, v85, v86, v87, v88, v89, v90, v91, v92, v93, v94, v95, v96, v97, v98, v99, v100, v101, v102, v103, v104, v105, v106, v107, v108, u109, u110, u111, u112, u113, u114, u115, u116, u117, u118, u119, u120, u121, u122, u123, u124, u125, u126, u127, u128, u129, u130, u131, u132, u133, u134, u135, u136, u137, u138, u139, u140, u141, u142, u143, u144, u145, u146, u147, u148, u149, u150, u151, u152, u153, u154, u155, u156, u157, u158, u159, u160, u161, u162, u163, u164, u165, u166, u167, u168, u169, u170, u171, u172, u173, u174, u175, u176, u177, u178, u179, u180, u181, u182, u183, u184, u185, u186, u187, u188, u189, u190, u191, u192, u193, u194, u195, u196, u197, u198, u199, u200, u201, u202, v203, v204, v205, v206, v207, v208, v209, v210, v211, v212, v213, v214, v215, v216, v217, v218, v219, v220, v221, v222, v223, v224, v225, v226, v227, v228, v229, v230, v231, v232, v233, v234, v235, v236, v237, v238, v239, v240, v241, v242, v243, v244, v245, v246, v247, v248, v249, v250, v251, v252, v253, v254, v255, v256, v257, v258, v259, v260, v261, v262, v263, v264, v265, v266, v267, v268, v269, v270, v271, v272, v273, v274, v275, v276, v277, v278, v279, v280, v281, v282, v283, v284, v285, v286, v287, v288, v289, v290, v291, v292, v293, v294, v295, v296, v297, v298, v299, v300, v301, v302, v303, v304, v305, v306, v307, v308], []⟩ wx)) :
    Code.wp Try.prog ((Try.f3.body.bind (seqAt 25)).getD .skip) (Exit.then K (fun _ _ _ => False)) ⟨#[v0, .slice so sn.length sc, v2, v3, v4, v5, v6, .pointer (some ⟨C, 0, none⟩), .pointer (some ⟨P, 0, none⟩), str s1, str s, .pointer (some ⟨A, 0, none⟩), .int .i64 (i : Int), v13, .int .i64 (endK k), .pointer (some ⟨X, 0, none⟩), v16, v17, v18, v19, v20, v21, v22, v23, v24, v25, v26, v27, v28, v29, v30, v31, v32, v33, v34, v35, v36, v37, v38, v39, v40, v41, v42, v43, v44, v45, v46, v47, v48, v49, v50, v51, v52, v53, v54, v55, v56, v57, v58, v59, v60, v61, v62, v63, v64, v65, v66, v67, v68, v69, v70, v71, v72, v73, v74, v75, v76, v77, v78, v79, v80, v81, v82, v83, v84, v85, v86, v87, v88, v89, v90, v91, v92, v93, v94, v95, v96, v97, v98, v99, v100, v101, v102, v103, v104, v105, v106, v107, v108, v109, v110, v111, v112, v113, v114, v115, v116, v117, v118, v119, v120, v121, v122, v123, v124, v125, v126, v127, v128, v129, v130, v131, v132, v133, v134, v135, v136, v137, v138, v139, v140, v141, v142, v143, v144, v145, v146, v147, v148, v149, v150, v151, v152, v153, v154, v155, v156, v157, v158, v159, v160, v161, v162, v163, v164, v165, v166, v167, v168, v169, v170, v171, v172, v173, v174, v175, v176, v177, v178, v179, v180, v181, v182, v183, v184, v185, v186, v187, v188, v189, v190, v191, v192, v193, v194, v195, v196, v197, v198, v199, v200, v201, v202, v203, v204, v205, v206, v207, v208, v209, v210, v211, v212, v213, v214, v215, v216, v217, v218, v219, v220, v221, v222, v223, v224, v225, v226, v227, v228, v229, v230, v231, v232, v233, v234, v235, v236, v237, v238, v239, v240, v241, v242, v243, v244, v245, v246, v247, v248, v249, v250, v251, v252, v253, v254, v255, v256, v257, v258, v259, v260, v261, v262, v263, v264, v265, v266, v267, v268, v269, v270, v271, v272, v273, v274, v275, v276, v277, v278, v279, v280, v281, v282, v283, v284, v285, v286, v287, v288, v289, v290, v291, v292, v293, v294, v295, v296, v297, v298, v299, v300, v301, v302, v303, v304, v305, v306, v307, v308], []⟩ W := by
  conv => arg 2; whnf
  obtain ⟨ae, af, hev, _, _⟩ := HQ.out.es.slice
  subst hev
  obtain ⟨ke, hke⟩ := hide k.es.length
  have Hke : Hid (k.es.length = ke ∧ ke ≤ 30) := ⟨hke.out, by have h6 := Hp.out.1.en; have h7 := Hp.out.1.inv.ok.b0; have h8 := hke.out; unfold endK at h6; omega⟩
  have HQ : Hid (KpAt (FF P A) W P { k with t := t, v := v, c := endK k } (.slice ae ke af) x y z cx cy cz) := by
    have h := HQ.out
    rw [show ({ k with t := t, v := v, c := endK k } : Kp).es.length = ke from hke.out] at h
    exact h
  have hke30 := Hke.out.2
  have hEes : Ents (FF P A) W (.slice ae ke af) k.es := HQ.out.es
  have HEes := Lib.hid hEes
  have HS1 : Hid (∀ w', Below W.heap.size W w' → Src Try.prog 4 27 (.slice ae ke af) ke (k.es.flatMap rowE) w') := by
    show ∀ w', _ → _
    intro w' hb
    have h9 := src_sl (P := Try.prog) (tx := 27) (ao := ae) (cap := af) (l := k.es) rowE Try.underlying27 (by decide) rowE_len rowE_one (by rw [hke.out]; exact Ents.monoC HEes.out hb)
    rw [hke.out] at h9
    exact h9
  have B0 := Below.refl W.heap.size W
  have hbD0 : Below W.heap.size W W.drew := B0.drew
  have hbD1 : Below W.heap.size W ((W.alloc (.cells #[.int .i64 (endK k + 1), .int .i64 t, .int .i64 1, str [b]] 37)).drew) := (B0.alloc (Nat.le_refl _) _).drew
  have HD0 := Lib.hid hbD0
  have HD1 := Lib.hid hbD1
  have Hnil : Hid (∀ w', World.ownsRow w' W.heap.size 37 4 (.slice none 0 0) 0 []) := fun w' => World.ownsRow_nil _ _ _ _
  have Hfr : Hid (∀ w1 w2, Below W.heap.size W w1 → w1.grownBy w2 (Value.slice none 0 0).ownBlock → Below W.heap.size W w2) := fun w1 w2 h1 h2 => h1.trans (below_own (World.ownsRow_nil w1 W.heap.size 37 4) h2 (Nat.le_refl _) h1.size)
  have HSz : Hid (∀ w', Below W.heap.size W w' → W.heap.size ≤ w'.heap.size) := fun w' h => h.size
  -- the new entry's row, made first
  have HSn1 : Hid (∀ w', Below (W.alloc (.cells #[.int .i64 (endK k + 1), .int .i64 t, .int .i64 1, str [b]] 37)).heap.size ((W.alloc (.cells #[.int .i64 (endK k + 1), .int .i64 t, .int .i64 1, str [b]] 37)).drew) w' → Src Try.prog 4 27 (.slice (some ⟨W.heap.size, 0, none⟩) 1 1) 1 [.int .i64 (endK k + 1), .int .i64 t, .int .i64 1, str [b]] w') := by
    show ∀ w', _ → _
    intro w' hb
    have hg : w'.heap[W.heap.size]? = some (.cells (([newE k t b] : List EntP).flatMap rowE).toArray 37 (0, 0)) := (hb.block W.heap.size (by rw [World.size_alloc]; omega)).trans (hp_at W _ rfl)
    have ho : OwnE 0 w' (.slice (some ⟨W.heap.size, 0, none⟩) 1 1) [newE k t b] := own_lit rowE rowE_len hg (Nat.zero_le _) (by unfold maxLen; simp)
    exact src_sl (P := Try.prog) (tx := 27) (ao := some ⟨W.heap.size, 0, none⟩) (cap := 1) (l := [newE k t b]) rowE Try.underlying27 (by decide) rowE_len rowE_one (OwnE.ents ho)
  have HSn0 : Hid (∀ w1 : World, Src Try.prog 4 27 (.slice (some ⟨w1.heap.size, 0, none⟩) 1 1) 1 [.int .i64 (endK k + 1), .int .i64 t, .int .i64 1, str [b]] (w1.alloc (.cells #[.int .i64 (endK k + 1), .int .i64 t, .int .i64 1, str [b]] 37))) := fun w1 => src_new (w := w1) Try.underlying27 _ 1 rfl (rowE_one (newE k t b))
  -- facts in every world
  have HF : Hid (∀ w', Below W.heap.size W w' → (w'.cell? ⟨X, 0, none⟩ = some (.int .i64 (endK k + 1)) ∧ w'.cell? ⟨X, 1, none⟩ = some (.int .i64 t) ∧ w'.cell? ⟨X, 2, none⟩ = some (.int .i64 1) ∧ w'.cell? ⟨X, 3, none⟩ = some (str [b])) ∧ w'.cell? ⟨P, 5, none⟩ = some (.slice ae ke af) ∧ w'.frozen? ⟨P, 5, none⟩ = false) := by
    show ∀ w', _ → _
    intro w' hb
    have h1 := (hb.block X (lt_of_block HX.out)).trans HX.out
    have h2 := (hb.block P (lt_of_block HQ.out.blk)).trans HQ.out.blk
    exact ⟨⟨cell_n h1 0 rfl, cell_n h1 1 rfl, cell_n h1 2 rfl, cell_n h1 3 rfl⟩, cell_n h2 5 rfl, free_n h2 5⟩
  obtain ⟨⟨q0, q1, q2, q3⟩, q5, q6⟩ := HF.out _ hbD0
  obtain ⟨-, r5, -⟩ := HF.out _ hbD1
  go_upto_region 25 with fail
  try dsimp only
  go_cut [115] from 109 to 117 (fun c115 wc => ∃ a2 k2 w2, Hid (Below W.heap.size W w2) ∧ Hid (w2.ownsRow W.heap.size 37 4 (.slice a2 (ke + 1) k2) (ke + 1) (k.es.flatMap rowE ++ [.int .i64 (endK k + 1), .int .i64 t, .int .i64 1, str [b]])) ∧ wc = w2.setCell ⟨P, 5, none⟩ (.slice a2 (ke + 1) k2))
  case first =>
    go_region_law (first
      | ((refine step_append_src ?h1 (.const (.slice none 0 0)) (.tmp 111) 27 27 ?h2 W.heap.size 37 _ 4 40 Try.underlying27 info_ent rfl (.slice none 0 0) 0 [] ?e1 (Hnil.out _) (.slice ae ke af) ke _ ?e2 (HS1.out _ HD0.out) (by unfold maxLen; omega) (by omega) (HSz.out _ HD0.out) ?_); (case h1 => rfl); (case h2 => rfl); (case e1 => simp [Act.eval, Act.put]); (case e2 => simp [Act.eval, Act.put]); intro v1 w1 ho1 hg1; obtain ⟨y1, k1, rfl⟩ := owns_slice ho1; have Hb4 := Lib.hid (Hfr.out _ _ HD0.out hg1); (try simp only [Nat.zero_add, List.nil_append] at ho1); have Ho1 := Lib.hid (ho1.alloc (.cells #[.int .i64 (endK k + 1), .int .i64 t, .int .i64 1, str [b]] 37)); have x4 := HF.out _ Hb4.out; have HS4 := Lib.hid (HSn0.out w1); have hb5 := Hb4.out.alloc Hb4.out.size (.cells #[.int .i64 (endK k + 1), .int .i64 t, .int .i64 1, str [b]] 37); have Hb5 := Lib.hid hb5; clear q0 q1 q2 q3 q5 q6; have q0 := x4.1.1; have q1 := x4.1.2.1; have q2 := x4.1.2.2.1; have q3 := x4.1.2.2.2; clear x4 ho1 hg1 hb5)
      | ((refine step_append_src ?h1 (.const (.slice none 0 0)) (.tmp 111) 27 27 ?h2 W.heap.size 37 _ 4 40 Try.underlying27 info_ent rfl (.slice none 0 0) 0 [] ?e1 (Hnil.out _) (.slice ae ke af) ke _ ?e2 (HS1.out _ HD1.out) (by unfold maxLen; omega) (by omega) (HSz.out _ HD1.out) ?_); (case h1 => rfl); (case h2 => rfl); (case e1 => simp [Act.eval, Act.put]); (case e2 => simp [Act.eval, Act.put]); intro v1 w1 ho1 hg1; obtain ⟨y1, k1, rfl⟩ := owns_slice ho1; have Hb4 := Lib.hid (Hfr.out _ _ HD1.out hg1); (try simp only [Nat.zero_add, List.nil_append] at ho1); have Ho1 := Lib.hid ho1; have HS4 := Lib.hid (HSn1.out w1 (below_own (World.ownsRow_nil _ (W.alloc (.cells #[.int .i64 (endK k + 1), .int .i64 t, .int .i64 1, str [b]] 37)).heap.size 37 4) hg1 (Nat.le_refl _) (Nat.le_refl _))); have Hb5 := Hb4; clear ho1 hg1)
      | ((refine step_append_src ?h1 (.tmp 112) (.tmp 114) 27 27 ?h2 W.heap.size 37 _ 4 40 Try.underlying27 info_ent rfl (.slice y1 ke k1) ke _ ?e1 Ho1.out _ 1 _ ?e2 HS4.out (by unfold maxLen; omega) (by omega) (HSz.out _ Hb5.out) ?_); (case h1 => rfl); (case h2 => rfl); (case e1 => simp [Act.eval, Act.put]); (case e2 => simp [Act.eval, Act.put]); intro v2 w2 ho2 hg2; obtain ⟨y2, k2, rfl⟩ := owns_slice ho2; have Hb6 : Hid (Below W.heap.size W w2) := Hb5.out.trans (below_own Ho1.out hg2 (Nat.le_refl _) Hb5.out.size); have x4 := HF.out _ Hb6.out; have p5 := x4.2.1; have p6 := x4.2.2; have Ho2 := Lib.hid ho2; clear x4 ho2 hg2))
    all_goals
      clear q0 q1 q2 q3
      go_wp2_with fail
      go_meet
      exact ⟨y2, k2, w2, Hb6, Ho2, rfl⟩
  case rest =>
    obtain ⟨y2, k2, w2, Hb6, Ho2, hwc⟩ := hcut
    have hc : Chg (fun b => b = P) w2 (w2.setCell ⟨P, 5, none⟩ (.slice y2 (ke + 1) k2)) := Chg.setCell (F := fun b => b = P) (a := ⟨P, 5, none⟩) w2 rfl _
    have hQ2 := HQ.out.below Hb6.out
    have hl : (appK k t v b).es.length = ke + 1 := by show (k.es ++ [_]).length = _; rw [List.length_append, hke.out]; rfl
    have hoe : OwnE W.heap.size w2 (.slice y2 (ke + 1) k2) (appK k t v b).es := by
      show World.ownsRow _ _ _ _ _ _ _
      rw [hl]
      have h := Ho2.out
      have e : (appK k t v b).es.flatMap rowE = k.es.flatMap rowE ++ [.int .i64 (endK k + 1), .int .i64 t, .int .i64 1, str [b]] := by show (k.es ++ [newE k t b]).flatMap rowE = _; rw [List.flatMap_append]; rfl
      rw [e]
      exact h
    have hes : Ents (FF P A) w2 (.slice y2 (ke + 1) k2) (appK k t v b).es := (OwnE.ents hoe).weak (Plain.good _) (fun b hb _ => by have h1 := lt_of_block HQ.out.blk; have h2 := lt_of_block HA.out.blk; have h3 : W.heap.size ≤ b := hb; exact ⟨by omega, by omega⟩)
    have K1 : Hid (KpAt (FF P A) (w2.setCell ⟨P, 5, none⟩ (.slice y2 (ke + 1) k2)) P (appK k t v b) (.slice y2 (ke + 1) k2) x y z cx cy cz) := hQ2.put hc (at_set hQ2.blk _) hes hQ2.sc hQ2.cf
    have K2 := Lib.hid ((HA.out.below Hb6.out).chg hc (fun h => h.1 rfl) (Ne.symm HB.out.1))
    have K3 := Lib.hid (hc.at ((Hb6.out.block C (lt_of_block HC.out)).trans HC.out) HB.out.2.1)
    have K4 := Lib.hid ((Hc.out.frame (Agree.below Hb6.out)).frame (hc.agree (fun b hb e => hb.1 e)))
    have K5 : Hid (Below w.heap.size w (w2.setCell ⟨P, 5, none⟩ (.slice y2 (ke + 1) k2))) := by
      have h1 : Below w.heap.size w w2 := HW.out.trans (Hb6.out.mono HW.out.size)
      exact h1.trans (hc.toBelow (fun b hb => by have := HB.out; omega) h1.size)
    have Hne : Hid (ke + 1 = k.es.length + 1) := by show _ = _; rw [hke.out]
    clear hc hQ2 hl hoe hes
    subst hwc
    iterate 20 (first | done | (refine crash_snap w (w2.setCell ⟨P, 5, none⟩ (.slice y2 (ke + 1) k2)) C P A i k kw t v b s s1 old m1 m2 m3 mp1 mp2 mp3 _ _ _ _ _ _ _ _ _ _ _ _ _ _ _ _ so sc sn K1 K2 Hne K3 K4 K5 Hp Hs1 Ht hi HB HS K ?_; unfold Hid; intros; rename_i hr; (refine HK.out _ _ _ _ _ _ _ _ _ _ _ _ _ _ _ _ _ _ _ _ _ _ _ _ _ _ _ _ _ _ _ _ _ _ _ _ _ _ _ _ _ _ _ _ _ _ _ _ _ _ _ _ _ _ _ _ _ _ _ _ _ _ _ _ _ _ _ _ _ _ _ _ _ _ _ _ _ _ _ _ _ _ _ _ _ _ _ _ _ _ _ _ _ _ _ _ _ _ _ ?_; exact hr); done) | go_step)
theorem size_readyC : (Try.prog.info? 41).map (·.size) = some 15 := by kernel_rfl
theorem saveA_app {k : Kp} {t v : Int} {b : UInt8} (h : 0 < (appB k t v b).length) : saveA true t v (endK k) [newE k t b] 0 0 noC [] = [⟨2, nLog, [], appB k t v b, 0⟩, ⟨3, nLog, [], [], 0⟩] := by
  have e : saveD true t v (endK k) [newE k t b] = appB k t v b := by unfold saveD entsB; simp
  unfold saveA
  rw [if_neg (by decide), e, if_neg (fun h2 => by rw [h2] at h; exact absurd h (Nat.lt_irrefl _))]
theorem own_twoA {S : Nat} {w : World} {a : Option Addr} {n c : Nat} {x0 x1 : ActP} (h : OwnA S w (.slice a n c) [x0, x1]) : ∃ g, a = some ⟨g, 0, none⟩ ∧ n = 2 ∧ w.cell? ⟨g, 0, none⟩ = some (.int .i64 x0.what) ∧ w.cell? ⟨g, 5, none⟩ = some (.int .i64 x1.what) := by
  rcases h.2 with ⟨_, h0⟩ | ⟨g, cap, cur, hv, hb, hg, hn, hc, hs, ht⟩
  · cases h0
  · injection hv with e1 e2 e3
    subst e1 e2 e3
    exact ⟨g, rfl, rfl, own_cell h (i := 0) rfl, own_cell h (i := 5) rfl⟩
set_option maxHeartbeats 4000000 in
set_option maxRecDepth 100000 in
theorem crash_save {v0 v2 v3 v4 v5 v6 v13 v17 v18 v19 v20 v21 v22 v23 v24 v25 v26 v27 v28 v29 v30 v31 v32 v33 v34 v35 v36 v37 v38 v39 v40 v41 v42 v43 v44 v45 v46 v47 v48 v49 v50 v51 v52 v53 v54 v55 v56 v57 v58 v59 v60 v61 v62 v63 v64 v65 v66 v67 v68 v69 v70 v71 v72 v73 v74 v75 v76 v77 v78 v79 v80 v81 v82 v83 v84 v85 v86 v87 v88 v89 v90 v91 v92 v93 v94 v95 v96 v97 v98 v99 v100 v101 v102 v103 v104 v105 v106 v107 v108 v109 v110 v111 v112 v113 v114 v115 v116 v117 v118 v119 v120 v121 v122 v123 v124 v125 v126 v127 v128 v129 v130 v131 v132 v133 v134 v135 v136 v137 v138 v139 v140 v141 v142 v143 v144 v145 v146 v147 v148 v149 v150 v151 v152 v153 v154 v155 v156 v157 v158 v159 v160 v161 v162 v163 v164 v165 v166 v167 v168 v169 v170 v171 v172 v173 v174 v175 v176 v177 v178 v179 v180 v181 v182 v183 v184 v185 v186 v187 v188 v189 v190 v191 v192 v193 v194 v195 v196 v197 v198 v199 v200 v201 v202 v203 v204 v205 v206 v207 v208 v209 v210 v211 v212 v213 v214 v215 v216 v217 v218 v219 v220 v221 v222 v223 v224 v225 v226 v227 v228 v229 v230 v231 v232 v233 v234 v235 v236 v237 v238 v239 v240 v241 v242 v243 v244 v245 v246 v247 v248 v249 v250 v251 v252 v253 v254 v255 v256 v257 v258 v259 v260 v261 v262 v263 v264 v265 v266 v267 v268 v269 v270 v271 v272 v273 v274 v275 v276 v277 v278 v279 v280 v281 v282 v283 v284 v285 v286 v287 v288 v289 v290 v291 v292 v293 v294 v295 v296 v297 v298 v299 v300 v301 v302 v303 v304 v305 v306 v307 v308 : Value} (w W : World) (C P A X R E i : Nat) (k kw : Kp) (t v : Int) (b : UInt8) (s old : List UInt8) (m1 m2 m3 : Option Addr) (mp1 mp2 mp3 : Nat) (ev x y z cx cy cz ew xw yw zw dx dy dz : Value) (so : Option Addr) (sc : Nat) (sn : List Int)
    (HQ : Hid (KpAt (FF P A) W P k ev x y z cx cy cz)) (HA : Hid (KpAt (FF P A) W A k ew xw yw zw dx dy dz)) (HX : Hid (W.heap[X]? = some (.cells #[.int .i64 (endK k + 1), .int .i64 t, .int .i64 1, str [b]] 37 (0, 0)))) (HXP : Hid (X ≠ P ∧ R ≠ P))
    (HR : Hid (W.heap[R]? = some (.cells (cellsR t v (endK k) true (.slice (some ⟨E, 0, none⟩) 1 1) 0 0 (.slice none 0 0) (.slice none 0 0) (.slice none 0 0) [] (.slice none 0 0) (.slice none 0 0) (.slice none 0 0) (.slice none 0 0)) 41 (0, 0)))) (HE : Hid (Ents (fun _ => True) W (.slice (some ⟨E, 0, none⟩) 1 1) [newE k t b]))
    (HC : Hid (W.heap[C]? = some (.cells #[.slice m1 2 mp1, .slice m2 0 mp2, .slice m3 0 mp3] 24 (0, 0)))) (Hc : Hid (ConfG (FF P A) W (.slice m1 2 mp1) (.slice m2 0 mp2) (.slice m3 0 mp3) c12))
    (HW : Hid (Below w.heap.size w W)) (Hp : Hid (PlainSt i k kw s old)) (Ht : Hid (1 ≤ t ∧ t ≤ i + 1 ∧ k.t ≤ t ∧ 0 ≤ v ∧ v ≤ 9)) (hi : i < 30)
    (HB : Hid (P ≠ A ∧ C ≠ P ∧ C ≠ A ∧ w.heap.size ≤ P ∧ w.heap.size ≤ A)) (HS : Hid (∀ w', Below w.heap.size w w' → Ints w' (.slice so sn.length sc) sn))
    (K : Act → World → Prop)
    (HK : Hid (∀ (u6 u9 u10 u17 u84 u85 u86 u87 u88 u89 u90 u91 u92 u93 u94 u95 u96 u97 u98 u99 u100 u101 u102 u103 u104 u105 u106 u107 u108 u109 u110 u111 u112 u113 u114 u115 u116 u117 u118 u119 u120 u121 u122 u123 u124 u125 u126 u127 u128 u129 u130 u131 u132 u133 u134 u135 u136 u137 u138 u139 u140 u141 u142 u143 u144 u145 u146 u147 u148 u149 u150 u151 u152 u153 u154 u155 u156 u157 u158 u159 u160 u161 u162 u163 u164 u165 u166 u167 u168 u169 u170 u171 u172 u173 u174 u175 u176 u177 u178 u179 u180 u181 u182 u183 u184 u185 u186 u187 u188 u189 u190 u191 u192 u193 u194 u195 u196 u197 u198 u199 u200 u201 u202 : Value) (wx : World), RoundC w wx C P A (i + 1) u9 u10 m1 m2 m3 mp1 mp2 mp3 → K ⟨#[v0, .slice so sn.length sc, v2, v3, v4, v5, u6, .pointer (some ⟨C, 0, none⟩), .pointer (some ⟨P, 0, none⟩), u9, u10, .pointer (some ⟨A, 0, none⟩), .int .i64 (i : Int), v13, .int .i64 (endK k), .pointer (some ⟨X, 0, none⟩), .pointer (some ⟨R, 0, none⟩), u17, v18, v19, v20, v21, v22, v23, v24, v25, v26, v27, v28, v29, v30, v31, v32, v33, v34, v35, v36, v37, v38, v39, v40, v41, v42, v43, v44, v45, v46, v47, v48, v49, v50, v51, v52, v53, v54, v55, v56, v57, v58, v59, v60, v61, v62, v63, v64, v65, v66, v67, v68, v69, v70, v71, v72, v73, v74, v75, v76, v77, v78, v79, v80, v81, v82, v83, u84, u85, u86, u87, u88, u89, u90, u91, u92, u93, u94, u95, u96, u97, u98, u99, u100, u101, u102, u103, u104, u105, u106, u107, u108, u109, u110, u111, u112, u113, u114, u115, u116, u117, u118, u119, u120, u121, u122, u123, u124, u125, u126, u127, u128, u129, u130, u131, u132, u133, u134, u135, u136, u137, u138, u139, u140, u141, u142, u143, u144, u145, u146, u147, u148, u149, u150, u151, u152, u153, u154, u155, u156, u157, u158, u159, u160, u161, u162, u163, u164, u165, u166, u167, u168, u169, u170, u171, u172, u173, u174, u175, u176, u177, u178, u179, u180, u181, u182, u183, u184, u185, u186, u187, u188, u189, u190, u191, u192, u193, u194, u195, u196, u197, u198, u199, u200, u201, u202, v203, v204, v205, v206, v207, v208, v209, v210, v211, v212, v213, v214, v215, v216, v217, v218, v219, v220, v221, v222, v223, v224, v225, v226, v227, v228, v229, v230, v231, v232, v233, v234, v235, v236, v237, v238, v239, v240, v241, v242, v243, v244, v245, v246, v247, v248, v249, v250, v251, v252, v253, v254, v255, v256, v257, v258, v259, v260, v261, v262, v263, v264, v265, v266, v267, v268, v269, v270, v271, v272, v273, v274, v275, v276, v277, v278, v279, v280, v281, v282, v283, v284, v285, v286, v287, v288, v289, v290, v291, v292, v293, v294, v295, v296, v297, v298, v299, v300, v301, v302, v303, v304, v305, v306, v307, v308], []⟩ wx)) :
    Code.wp Try.prog ((Try.f3.body.bind (seqAt 20)).getD .skip) (Exit.then K (fun _ _ _ => False)) ⟨#[v0, .slice so sn.length sc, v2, v3, v4, v5, v6, .pointer (some ⟨C, 0, none⟩), .pointer (some ⟨P, 0, none⟩), str s, str s, .pointer (some ⟨A, 0, none⟩), .int .i64 (i : Int), v13, .int .i64 (endK k), .pointer (some ⟨X, 0, none⟩), .pointer (some ⟨R, 0, none⟩), v17, v18, v19, v20, v21, v22, v23, v24, v25, v26, v27, v28, v29, v30, v31, v32, v33, v34, v35, v36, v37, v38, v39, v40, v41, v42, v43, v44, v45, v46, v47, v48, v49, v50, v51, v52, v53, v54, v55, v56, v57, v58, v59, v60, v61, v62, v63, v64, v65, v66, v67, v68, v69, v70, v71, v72, v73, v74, v75, v76, v77, v78, v79, v80, v81, v82, v83, v84, v85, v86, v87, v88, v89, v90, v91, v92, v93, v94, v95, v96, v97, v98, v99, v100, v101, v102, v103, v104, v105, v106, v107, v108, v109, v110, v111, v112, v113, v114, v115, v116, v117, v118, v119, v120, v121, v122, v123, v124, v125, v126, v127, v128, v129, v130, v131, v132, v133, v134, v135, v136, v137, v138, v139, v140, v141, v142, v143, v144, v145, v146, v147, v148, v149, v150, v151, v152, v153, v154, v155, v156, v157, v158, v159, v160, v161, v162, v163, v164, v165, v166, v167, v168, v169, v170, v171, v172, v173, v174, v175, v176, v177, v178, v179, v180, v181, v182, v183, v184, v185, v186, v187, v188, v189, v190, v191, v192, v193, v194, v195, v196, v197, v198, v199, v200, v201, v202, v203, v204, v205, v206, v207, v208, v209, v210, v211, v212, v213, v214, v215, v216, v217, v218, v219, v220, v221, v222, v223, v224, v225, v226, v227, v228, v229, v230, v231, v232, v233, v234, v235, v236, v237, v238, v239, v240, v241, v242, v243, v244, v245, v246, v247, v248, v249, v250, v251, v252, v253, v254, v255, v256, v257, v258, v259, v260, v261, v262, v263, v264, v265, v266, v267, v268, v269, v270, v271, v272, v273, v274, v275, v276, v277, v278, v279, v280, v281, v282, v283, v284, v285, v286, v287, v288, v289, v290, v291, v292, v293, v294, v295, v296, v297, v298, v299, v300, v301, v302, v303, v304, v305, v306, v307, v308], []⟩ W := by
  conv => arg 2; whnf
  have hst1 := Hp.out.1.app (t := t) (v := v) (by omega) b Ht.out.1 Ht.out.2.1 Ht.out.2.2.1 Ht.out.2.2.2.1 Ht.out.2.2.2.2
  have hpos := appB_pos Hp.out.1 (by omega) b (v := v) Ht.out.2.1 Ht.out.2.2.2.2
  have hek : 0 ≤ endK k ∧ endK k ≤ 30 := by have h6 := Hp.out.1.en; have h7 := Hp.out.1.inv.ok.b0; unfold endK at h6 ⊢; omega
  have hlen := hst1.len
  rw [List.length_append] at hlen
  have HSv : Hid (Calls Try.prog 5 #[.agg (cellsR t v (endK k) true (.slice (some ⟨E, 0, none⟩) 1 1) 0 0 (.slice none 0 0) (.slice none 0 0) (.slice none 0 0) [] (.slice none 0 0) (.slice none 0 0) (.slice none 0 0) (.slice none 0 0))] W fun e w' => ∃ v', e = .returned v' ∧ OwnA W.heap.size w' v' [⟨2, nLog, [], appB k t v b, 0⟩, ⟨3, nLog, [], [], 0⟩] ∧ Below W.heap.size W w') := by
    have h := save_wal t v (endK k) true (.slice (some ⟨E, 0, none⟩) 1 1) [newE k t b] 0 0 (.slice none 0 0) (.slice none 0 0) (.slice none 0 0) noC [] none none none none 0 0 0 0 0 0 0 0 _ W HE.out (Config3.nil W) (by simp) ⟨by have := Ht.out; omega, by have := Ht.out; omega⟩ ⟨by have := Ht.out; omega, by have := Ht.out; omega⟩ ⟨by omega, by omega⟩
    rw [saveA_app hpos] at h
    exact h
  obtain ⟨ab, hab⟩ := hide (appB k t v b)
  rw [hab.out] at HSv hlen
  have Hab : Hid (ab.length ≤ 1000000 ∧ s.length ≤ 1000000) := ⟨by omega, by omega⟩
  have HDn : Hid (∀ w1 v2 F, Acs F w1 v2 [⟨2, nLog, [], ab, 0⟩, ⟨3, nLog, [], [], 0⟩] → Calls Try.prog 6 #[str s, v2] w1 fun e w' => e = .returned (str (s ++ ab)) ∧ Below w1.heap.size w1 w') := by
    show ∀ w1 v2 F, _ → _
    intro w1 v2 F h
    have := done_law s v2 [⟨2, nLog, [], ab, 0⟩, ⟨3, nLog, [], [], 0⟩] F w1 h Hab.out.2 (by intro a ha; simp only [List.mem_cons, List.not_mem_nil, or_false] at ha; rcases ha with rfl | rfl; exact Hab.out.1; exact Nat.zero_le _) (by show 2 ≤ 8; decide)
    rwa [doneP_save] at this
  obtain ⟨s1, hs1⟩ := hide (s ++ ab)
  rw [hs1.out] at HDn
  have Hs1 : Hid (s1 = s ++ appB k t v b) := by show _ = _; rw [← hs1.out, ← hab.out]
  clear hst1 hpos hlen
  go_upto_region 20 with fail
  refine wp_region_lit ?_
  refine wpList_load_row rfl 41 (.tmp 16) rfl R rfl 41 (cellsR t v (endK k) true (.slice (some ⟨E, 0, none⟩) 1 1) 0 0 (.slice none 0 0) (.slice none 0 0) (.slice none 0 0) [] (.slice none 0 0) (.slice none 0 0) (.slice none 0 0) (.slice none 0 0)) (0, 0) _ HR.out Try.underlying41 rfl size_readyC ?_
  go_wp2_with fail
  refine HSv.out.mono ?_
  rintro e w1 ⟨v1, rfl, ho1, hb1⟩
  obtain ⟨a1, c1, rfl⟩ := owns_slice ho1
  have HAc := Lib.hid (OwnA.acsC ho1)
  obtain ⟨g1, rfl, -, x2, x3⟩ := own_twoA ho1
  have Hb1 := Lib.hid hb1
  have HD1 := Lib.hid (HDn.out w1 _ _ HAc.out)
  clear hb1 ho1
  dsimp only at x2 x3
  dsimp only
  go_upto_region 23 with fail
  clear x2 x3
  go_wp2_with fail
  refine HD1.out.mono ?_
  rintro e w2 ⟨rfl, hb2⟩
  have Hb2 : Hid (Below W.heap.size W w2) := Hb1.out.trans (hb2.mono Hb1.out.size)
  have hR2 := (Hb2.out.block R (lt_of_block HR.out)).trans HR.out
  have hQ2 := HQ.out.below Hb2.out
  clear hb2
  have r0 := cell_n hR2 0 (v := .int .i64 t) rfl
  have r1 := cell_n hR2 1 (v := .int .i64 v) rfl
  have r2 := cell_n hR2 2 (v := .int .i64 (endK k)) rfl
  have p0 := cell_n hQ2.blk 0 (v := .int .i64 k.t) rfl
  have p1 := cell_n hQ2.blk 1 (v := .int .i64 k.v) rfl
  have p2 := cell_n hQ2.blk 2 (v := .int .i64 k.c) rfl
  have f0 := free_n hQ2.blk 0
  have f1 := free_n hQ2.blk 1
  have f2 := free_n hQ2.blk 2
  have hc : Chg (fun b => b = P) w2 (setFrom w2 P 0 [.int .i64 t, .int .i64 v, .int .i64 (endK k)]) := chg_from P _ w2 0
  have hb : (setFrom w2 P 0 [.int .i64 t, .int .i64 v, .int .i64 (endK k)]).heap[P]? = some (.cells (cellsK { k with t := t, v := v, c := endK k } ev x y z cx cy cz) 33 (0, 0)) := from_at (b := P) (t := 33) (vs := [.int .i64 t, .int .i64 v, .int .i64 (endK k)]) (w := w2) (i := 0) (xs := (cellsK k ev x y z cx cy cz).toList) hQ2.blk
  have K1 : Hid (KpAt (FF P A) (setFrom w2 P 0 [.int .i64 t, .int .i64 v, .int .i64 (endK k)]) P { k with t := t, v := v, c := endK k } ev x y z cx cy cz) := hQ2.put hc hb hQ2.es hQ2.sc hQ2.cf
  have K2 := Lib.hid ((HA.out.below Hb2.out).chg hc (fun h => h.1 rfl) (Ne.symm HB.out.1))
  have K0 := Lib.hid (hc.at ((Hb2.out.block X (lt_of_block HX.out)).trans HX.out) HXP.out.1)
  have K3 := Lib.hid (hc.at ((Hb2.out.block C (lt_of_block HC.out)).trans HC.out) HB.out.2.1)
  have K4 := Lib.hid ((Hc.out.frame (Agree.below Hb2.out)).frame (hc.agree (fun b hb e => hb.1 e)))
  have K5 : Hid (Below w.heap.size w (setFrom w2 P 0 [.int .i64 t, .int .i64 v, .int .i64 (endK k)])) := by
    have h1 : Below w.heap.size w w2 := HW.out.trans (Hb2.out.mono HW.out.size)
    exact h1.trans (hc.toBelow (fun b hb => by have := HB.out; omega) h1.size)
  clear hc hb hR2 hQ2
  dsimp only
  go_upto_region 24 with fail
  go_step
  iterate 40 (first | done | (refine crash_app w (setFrom w2 P 0 [.int .i64 t, .int .i64 v, .int .i64 (endK k)]) C P A X i k kw t v b s s1 old m1 m2 m3 mp1 mp2 mp3 _ _ _ _ _ _ _ _ _ _ _ _ _ _ so sc sn K1 K2 K0 K3 K4 K5 Hp Hs1 Ht hi HB HS K ?_; unfold Hid; intros; rename_i hr; (refine HK.out _ _ _ _ _ _ _ _ _ _ _ _ _ _ _ _ _ _ _ _ _ _ _ _ _ _ _ _ _ _ _ _ _ _ _ _ _ _ _ _ _ _ _ _ _ _ _ _ _ _ _ _ _ _ _ _ _ _ _ _ _ _ _ _ _ _ _ _ _ _ _ _ _ _ _ _ _ _ _ _ _ _ _ _ _ _ _ _ _ _ _ _ _ _ _ _ _ _ _ _ _ _ _ _ _ _ _ _ _ _ _ _ _ _ _ _ _ _ _ _ _ _ _ _ ?_; exact hr); done) | go_step)
end Go.Proofs.Ytjlhlmnoomiblaa
