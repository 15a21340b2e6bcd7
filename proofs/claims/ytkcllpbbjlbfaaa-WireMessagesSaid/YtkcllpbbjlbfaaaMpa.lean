/-
  The document: may a message be? What its kind does not have. The document: may a message be? Its numbers, its head; the whole. The document: a message written.
-/
import Derived.Test.YtkcllpbbjlbfaaaMre
import Derived.Test.YtkcllpbbjlbfaaaMrf
import Derived.Deep.DeepCutAuto
import Derived.Deep.CutRange
import Derived.Test.YtkcllpbbjlbfaaaMsi
namespace Go.Proofs.Ytkcllpbbjlbfaaa
open Go.RowKit Wm Mm Lg
set_option linter.unusedVariables false
set_option linter.unusedSimpArgs false

set_option maxHeartbeats 4000000 in
set_option maxRecDepth 100000 in
theorem msgR_plain {v0 v2 v9 v10 v11 v12 v13 v14 v15 v16 v17 v18 v19 v20 v21 v22 v23 v24 v25 v26 v27 v28 v29 v30 v31 v32 v33 v34 v35 v36 v37 v38 v39 v40 v41 v42 v43 v44 v45 v46 v47 v48 v49 v50 v51 v52 v53 v54 v55 v56 v57 v58 v59 v60 v61 v62 v63 v64 v65 v66 v67 v68 v69 v70 v71 v72 v73 v74 v75 v76 v77 v78 v79 v80 v81 v82 v83 v84 v85 v86 v87 v88 v89 v90 v91 v92 v93 v94 v95 v96 v97 v98 v99 v100 v101 v102 v103 v104 v105 v106 v107 v108 v109 v110 v111 v112 v113 v114 v115 v116 v117 v118 v119 v120 v121 v122 v123 v124 v125 v126 v127 v128 v129 v130 v131 v132 v133 v134 v135 v136 v137 v138 v139 v140 v141 v142 v143 v144 v145 v146 v147 v148 v149 v150 v151 v152 v153 v154 v155 v156 v157 v158 v159 v160 v161 v162 v163 v164 v165 v166 v167 v168 v169 v170 v171 v172 v173 v174 v175 v176 v177 v178 v179 v180 v181 v182 v183 v184 v185 v186 v187 v188 v189 v190 v191 v192 v193 v194 v195 v196 v197 v198 v199 v200 v201 v202 v203 v204 v205 v206 v207 v208 v209 v210 v211 v212 v213 v214 v215 v216 v217 v218 v219 v220 v221 v222 v223 v224 v225 v226 v227 v228 v229 v230 v231 v232 v233 v234 v235 v236 v237 v238 v239 v240 v241 v242 v243 v244 v245 v246 v247 v248 v249 v250 v251 v252 v253 v254 v255 v256 v257 v258 v259 v260 v261 v262 v263 v264 v265 v266 v267 v268 v269 v270 v271 v272 v273 v274 v275 v276 v277 v278 v279 v280 v281 v282 v283 v284 v285 v286 v287 v288 v289 v290 v291 v292 v293 v294 v295 v296 v297 v298 v299 v300 v301 v302 v303 v304 : Value} (m : Msg) (W : World) (B : Nat) (ae ax ay az : Option Addr) (ce cx cy cz : Nat) (G : Nat → Prop)
    (HB : Hid (∀ w', Below W.heap.size W w' → w'.heap[B]? = some (.cells (rowMsg m (.slice ae m.ents.length ce) (.slice ax m.sc.v.length cx) (.slice ay m.sc.n.length cy) (.slice az m.sc.l.length cz)).toArray 29 (0, 0)))) (HE : Hid (∀ w', Below W.heap.size W w' → Ents G w' (.slice ae m.ents.length ce) m.ents)) (HC : Hid (∀ w', Below W.heap.size W w' → Config3 w' (.slice ax m.sc.v.length cx) (.slice ay m.sc.n.length cy) (.slice az m.sc.l.length cz) m.sc))
    (post : Ending → World → Prop) (Hp : Hid (∀ b w', Below W.heap.size W w' → (plainM m && bodyM m) = b → post (.returned (.bool b)) w')) (hi1 : 0 ≤ m.index) (hi2 : m.index ≤ 1099511627775) (a r p b i z : Bool) (ha : Hid (askB m.kind = a)) (hr : Hid (repB m.kind = r)) (hp : Hid ((m.kind == 5) = p)) (hb : Hid ((m.kind == 6) = b)) (hi : Hid ((m.kind == 7) = i)) (hz : Hid (noneS m = z)) :
    Code.wp Try.prog ((Try.f16.body.bind (seqAt 17)).getD .skip) (bodyPost Try.prog Try.f16 post) ⟨#[v0, .pointer (some ⟨B, 0, none⟩), v2, .bool z, .bool a, .bool r, .bool p, .bool b, .bool i, v9, v10, v11, v12, v13, v14, v15, v16, v17, v18, v19, v20, v21, v22, v23, v24, v25, v26, v27, v28, v29, v30, v31, v32, v33, v34, v35, v36, v37, v38, v39, v40, v41, v42, v43, v44, v45, v46, v47, v48, v49, v50, v51, v52, v53, v54, v55, v56, v57, v58, v59, v60, v61, v62, v63, v64, v65, v66, v67, v68, v69, v70, v71, v72, v73, v74, v75, v76, v77, v78, v79, v80, v81, v82, v83, v84, v85, v86, v87, v88, v89, v90, v91, v92, v93, v94, v95, v96, v97, v98, v99, v100, v101, v102, v103, v104, v105, v106, v107, v108, v109, v110, v111, v112, v113, v114, v115, v116, v117, v118, v119, v120, v121, v122, v123, v124, v125, v126, v127, v128, v129, v130, v131, v132, v133, v134, v135, v136, v137, v138, v139, v140, v141, v142, v143, v144, v145, v146, v147, v148, v149, v150, v151, v152, v153, v154, v155, v156, v157, v158, v159, v160, v161, v162, v163, v164, v165, v166, v167, v168, v169, v170, v171, v172, v173, v174, v175, v176, v177, v178, v179, v180, v181, v182, v183, v184, v185, v186, v187, v188, v189, v190, v191, v192, v193, v194, v195, v196, v197, v198, v199, v200, v201, v202, v203, v204, v205, v206, v207, v208, v209, v210, v211, v212, v213, v214, v215, v216, v217, v218, v219, v220, v221, v222, v223, v224, v225, v226, v227, v228, v229, v230, v231, v232, v233, v234, v235, v236, v237, v238, v239, v240, v241, v242, v243, v244, v245, v246, v247, v248, v249, v250, v251, v252, v253, v254, v255, v256, v257, v258, v259, v260, v261, v262, v263, v264, v265, v266, v267, v268, v269, v270, v271, v272, v273, v274, v275, v276, v277, v278, v279, v280, v281, v282, v283, v284, v285, v286, v287, v288, v289, v290, v291, v292, v293, v294, v295, v296, v297, v298, v299, v300, v301, v302, v303, v304], []⟩ W := by
  conv => arg 2; whnf
  have H0 : Hid (Below W.heap.size W W) := Below.refl _ _
  have hpm := plainM_eq m
  rw [ha.out, hr.out, hp.out, hb.out, hi.out, hz.out] at hpm
  obtain ⟨nx, hnx⟩ := hide (m.index != 0)
  have qnx : (m.index != 0) = nx := hnx.out
  have enx : (m.index == 0) = !nx := by rw [← hnx.out]; simp [bne]
  rw [hnx.out] at hpm
  clear enx
  obtain ⟨lx, hlx⟩ := hide (m.logTerm != 0)
  have qlx : (m.logTerm != 0) = lx := hlx.out
  have elx : (m.logTerm == 0) = !lx := by rw [← hlx.out]; simp [bne]
  rw [hlx.out] at hpm
  clear elx
  obtain ⟨cm, hcm⟩ := hide (m.commit != 0)
  have qcm : (m.commit != 0) = cm := hcm.out
  have ecm : (m.commit == 0) = !cm := by rw [← hcm.out]; simp [bne]
  rw [hcm.out] at hpm
  clear ecm
  obtain ⟨hn, hhn⟩ := hide (m.hint != 0)
  have qhn : (m.hint != 0) = hn := hhn.out
  have ehn : (m.hint == 0) = !hn := by rw [← hhn.out]; simp [bne]
  rw [hhn.out] at hpm
  clear ehn
  obtain ⟨ct, hct⟩ := hide (m.ctx != 0)
  have qct : (m.ctx != 0) = ct := hct.out
  have ect : (m.ctx == 0) = !ct := by rw [← hct.out]; simp [bne]
  rw [hct.out] at hpm
  clear ect
  obtain ⟨ln, hln⟩ := hide (decide (0 < m.ents.length))
  have qln : decide (0 < m.ents.length) = ln := hln.out
  obtain ⟨rj, hrj⟩ := hide m.rej
  rw [hrj.out] at hpm
  rw [hln.out] at hpm
  have Hq17 := Lib.hid (And.intro qnx (And.intro qlx (And.intro qcm qln)))
  have Hq19 := Lib.hid (And.intro qhn (And.intro qct hrj.out))
  clear qnx qlx qcm qln qhn qct
  obtain ⟨c1, hc1⟩ := hide ((((((nx && !a) && !p) && !b) || ((lx && !a) && !p)) || (cm && !p)) || (ln && !p))
  obtain ⟨c2, hc2⟩ := hide (((((rj && !r) && !b) || (hn && !b)) || (((ct && !p) && !b) && !i)) || (!z && !i))
  rw [hc1.out, hc2.out] at hpm
  have Hpm := Lib.hid hpm
  clear hpm
  first
  | refine piece_any (msgR_c17 m W B ae ax ay az ce cx cy cz (HB.out _ H0.out) nx lx cm ln a p b Hq17.out.1 Hq17.out.2.1 Hq17.out.2.2.1 Hq17.out.2.2.2 c1 hc1.out _ ?_)
  | (go_step; refine piece_any (msgR_c17 m W B ae ax ay az ce cx cy cz (HB.out _ H0.out) nx lx cm ln a p b Hq17.out.1 Hq17.out.2.1 Hq17.out.2.2.1 Hq17.out.2.2.2 c1 hc1.out _ ?_))
  | (go_step; go_step; refine piece_any (msgR_c17 m W B ae ax ay az ce cx cy cz (HB.out _ H0.out) nx lx cm ln a p b Hq17.out.1 Hq17.out.2.1 Hq17.out.2.2.1 Hq17.out.2.2.2 c1 hc1.out _ ?_))
  | (go_step; go_step; go_step; refine piece_any (msgR_c17 m W B ae ax ay az ce cx cy cz (HB.out _ H0.out) nx lx cm ln a p b Hq17.out.1 Hq17.out.2.1 Hq17.out.2.2.1 Hq17.out.2.2.2 c1 hc1.out _ ?_))
  | (go_step; go_step; go_step; go_step; refine piece_any (msgR_c17 m W B ae ax ay az ce cx cy cz (HB.out _ H0.out) nx lx cm ln a p b Hq17.out.1 Hq17.out.2.1 Hq17.out.2.2.1 Hq17.out.2.2.2 c1 hc1.out _ ?_))
  | (go_step; go_step; go_step; go_step; go_step; refine piece_any (msgR_c17 m W B ae ax ay az ce cx cy cz (HB.out _ H0.out) nx lx cm ln a p b Hq17.out.1 Hq17.out.2.1 Hq17.out.2.2.1 Hq17.out.2.2.2 c1 hc1.out _ ?_))
  unfold Hid
  intros
  rename_i hr17
  obtain ⟨rfl, rfl⟩ := hr17
  cases c1 with
  | true =>
    have Hq := Lib.hid (Hp.out false W H0.out (by rw [Hpm.out]; rfl))
    go_wp2_with fail
    first | exact Hq.out | (go_ret; exact Hq.out)
  | false =>
    have hcl : (r = true ∧ b = false ∧ p = false ∧ i = false) ∨ (r = false ∧ b = true ∧ p = false ∧ i = false) ∨ (r = false ∧ b = false ∧ p = true ∧ i = false) ∨ (r = false ∧ b = false ∧ p = false ∧ i = true) ∨ (r = false ∧ b = false ∧ p = false ∧ i = false) := by
      rw [← hr.out, ← hb.out, ← hp.out, ← hi.out, repB]
      by_cases h2 : m.kind = 2
      · simp [h2]
      by_cases h4 : m.kind = 4
      · simp [h4]
      by_cases h5 : m.kind = 5
      · simp [h5]
      by_cases h6 : m.kind = 6
      · simp [h6]
      by_cases h7 : m.kind = 7
      · simp [h7]
      simp [h2, h4, h5, h6, h7]
    rcases hcl with ⟨rfl, rfl, rfl, rfl⟩ | ⟨rfl, rfl, rfl, rfl⟩ | ⟨rfl, rfl, rfl, rfl⟩ | ⟨rfl, rfl, rfl, rfl⟩ | ⟨rfl, rfl, rfl, rfl⟩
    · first
      | refine piece_any (msgR_d19r m W B ae ax ay az ce cx cy cz (HB.out _ H0.out) rj hn ct z Hq19.out.1 Hq19.out.2.1 Hq19.out.2.2 c2 hc2.out _ ?_)
      | (go_step; refine piece_any (msgR_d19r m W B ae ax ay az ce cx cy cz (HB.out _ H0.out) rj hn ct z Hq19.out.1 Hq19.out.2.1 Hq19.out.2.2 c2 hc2.out _ ?_))
      | (go_step; go_step; refine piece_any (msgR_d19r m W B ae ax ay az ce cx cy cz (HB.out _ H0.out) rj hn ct z Hq19.out.1 Hq19.out.2.1 Hq19.out.2.2 c2 hc2.out _ ?_))
      | (go_step; go_step; go_step; refine piece_any (msgR_d19r m W B ae ax ay az ce cx cy cz (HB.out _ H0.out) rj hn ct z Hq19.out.1 Hq19.out.2.1 Hq19.out.2.2 c2 hc2.out _ ?_))
      | (go_step; go_step; go_step; go_step; refine piece_any (msgR_d19r m W B ae ax ay az ce cx cy cz (HB.out _ H0.out) rj hn ct z Hq19.out.1 Hq19.out.2.1 Hq19.out.2.2 c2 hc2.out _ ?_))
      | (go_step; go_step; go_step; go_step; go_step; refine piece_any (msgR_d19r m W B ae ax ay az ce cx cy cz (HB.out _ H0.out) rj hn ct z Hq19.out.1 Hq19.out.2.1 Hq19.out.2.2 c2 hc2.out _ ?_))
      | (go_step; go_step; go_step; go_step; go_step; go_step; refine piece_any (msgR_d19r m W B ae ax ay az ce cx cy cz (HB.out _ H0.out) rj hn ct z Hq19.out.1 Hq19.out.2.1 Hq19.out.2.2 c2 hc2.out _ ?_))
      | (go_step; go_step; go_step; go_step; go_step; go_step; go_step; refine piece_any (msgR_d19r m W B ae ax ay az ce cx cy cz (HB.out _ H0.out) rj hn ct z Hq19.out.1 Hq19.out.2.1 Hq19.out.2.2 c2 hc2.out _ ?_))
      | (go_step; go_step; go_step; go_step; go_step; go_step; go_step; go_step; refine piece_any (msgR_d19r m W B ae ax ay az ce cx cy cz (HB.out _ H0.out) rj hn ct z Hq19.out.1 Hq19.out.2.1 Hq19.out.2.2 c2 hc2.out _ ?_))
      | (go_step; go_step; go_step; go_step; go_step; go_step; go_step; go_step; go_step; refine piece_any (msgR_d19r m W B ae ax ay az ce cx cy cz (HB.out _ H0.out) rj hn ct z Hq19.out.1 Hq19.out.2.1 Hq19.out.2.2 c2 hc2.out _ ?_))
      | (go_step; go_step; go_step; go_step; go_step; go_step; go_step; go_step; go_step; go_step; refine piece_any (msgR_d19r m W B ae ax ay az ce cx cy cz (HB.out _ H0.out) rj hn ct z Hq19.out.1 Hq19.out.2.1 Hq19.out.2.2 c2 hc2.out _ ?_))
      | (go_step; go_step; go_step; go_step; go_step; go_step; go_step; go_step; go_step; go_step; go_step; refine piece_any (msgR_d19r m W B ae ax ay az ce cx cy cz (HB.out _ H0.out) rj hn ct z Hq19.out.1 Hq19.out.2.1 Hq19.out.2.2 c2 hc2.out _ ?_))
      | (go_step; go_step; go_step; go_step; go_step; go_step; go_step; go_step; go_step; go_step; go_step; go_step; refine piece_any (msgR_d19r m W B ae ax ay az ce cx cy cz (HB.out _ H0.out) rj hn ct z Hq19.out.1 Hq19.out.2.1 Hq19.out.2.2 c2 hc2.out _ ?_))
      unfold Hid
      intros
      rename_i hr19
      obtain ⟨rfl, rfl⟩ := hr19
      cases c2 with
      | true =>
        have Hq := Lib.hid (Hp.out false W H0.out (by rw [Hpm.out]; rfl))
        go_wp2_with fail
        first | exact Hq.out | (go_ret; exact Hq.out)
      | false =>
        have Hpm2 : Hid (plainM m = true) := Hpm.out
        iterate 12 (first | done | exact msgR_body m W B ae ax ay az ce cx cy cz G (fun w' h => HB.out w' (H0.out.trans (h.mono H0.out.size))) (fun w' h => HE.out w' (H0.out.trans (h.mono H0.out.size))) (fun w' h => HC.out w' (H0.out.trans (h.mono H0.out.size))) post (fun b w' h0 h2 => have h1 := H0.out.trans (h0.mono H0.out.size); Hp.out b w' h1 (by rw [Hpm2.out, h2]; rfl)) hi1 hi2 a _ _ _ _ z ha hr hp hb hi hz | go_step)
    · first
      | refine piece_any (msgR_d19b m W B ae ax ay az ce cx cy cz (HB.out _ H0.out) rj hn ct z Hq19.out.1 Hq19.out.2.1 Hq19.out.2.2 c2 hc2.out _ ?_)
      | (go_step; refine piece_any (msgR_d19b m W B ae ax ay az ce cx cy cz (HB.out _ H0.out) rj hn ct z Hq19.out.1 Hq19.out.2.1 Hq19.out.2.2 c2 hc2.out _ ?_))
      | (go_step; go_step; refine piece_any (msgR_d19b m W B ae ax ay az ce cx cy cz (HB.out _ H0.out) rj hn ct z Hq19.out.1 Hq19.out.2.1 Hq19.out.2.2 c2 hc2.out _ ?_))
      | (go_step; go_step; go_step; refine piece_any (msgR_d19b m W B ae ax ay az ce cx cy cz (HB.out _ H0.out) rj hn ct z Hq19.out.1 Hq19.out.2.1 Hq19.out.2.2 c2 hc2.out _ ?_))
      | (go_step; go_step; go_step; go_step; refine piece_any (msgR_d19b m W B ae ax ay az ce cx cy cz (HB.out _ H0.out) rj hn ct z Hq19.out.1 Hq19.out.2.1 Hq19.out.2.2 c2 hc2.out _ ?_))
      | (go_step; go_step; go_step; go_step; go_step; refine piece_any (msgR_d19b m W B ae ax ay az ce cx cy cz (HB.out _ H0.out) rj hn ct z Hq19.out.1 Hq19.out.2.1 Hq19.out.2.2 c2 hc2.out _ ?_))
      | (go_step; go_step; go_step; go_step; go_step; go_step; refine piece_any (msgR_d19b m W B ae ax ay az ce cx cy cz (HB.out _ H0.out) rj hn ct z Hq19.out.1 Hq19.out.2.1 Hq19.out.2.2 c2 hc2.out _ ?_))
      | (go_step; go_step; go_step; go_step; go_step; go_step; go_step; refine piece_any (msgR_d19b m W B ae ax ay az ce cx cy cz (HB.out _ H0.out) rj hn ct z Hq19.out.1 Hq19.out.2.1 Hq19.out.2.2 c2 hc2.out _ ?_))
      | (go_step; go_step; go_step; go_step; go_step; go_step; go_step; go_step; refine piece_any (msgR_d19b m W B ae ax ay az ce cx cy cz (HB.out _ H0.out) rj hn ct z Hq19.out.1 Hq19.out.2.1 Hq19.out.2.2 c2 hc2.out _ ?_))
      | (go_step; go_step; go_step; go_step; go_step; go_step; go_step; go_step; go_step; refine piece_any (msgR_d19b m W B ae ax ay az ce cx cy cz (HB.out _ H0.out) rj hn ct z Hq19.out.1 Hq19.out.2.1 Hq19.out.2.2 c2 hc2.out _ ?_))
      | (go_step; go_step; go_step; go_step; go_step; go_step; go_step; go_step; go_step; go_step; refine piece_any (msgR_d19b m W B ae ax ay az ce cx cy cz (HB.out _ H0.out) rj hn ct z Hq19.out.1 Hq19.out.2.1 Hq19.out.2.2 c2 hc2.out _ ?_))
      | (go_step; go_step; go_step; go_step; go_step; go_step; go_step; go_step; go_step; go_step; go_step; refine piece_any (msgR_d19b m W B ae ax ay az ce cx cy cz (HB.out _ H0.out) rj hn ct z Hq19.out.1 Hq19.out.2.1 Hq19.out.2.2 c2 hc2.out _ ?_))
      | (go_step; go_step; go_step; go_step; go_step; go_step; go_step; go_step; go_step; go_step; go_step; go_step; refine piece_any (msgR_d19b m W B ae ax ay az ce cx cy cz (HB.out _ H0.out) rj hn ct z Hq19.out.1 Hq19.out.2.1 Hq19.out.2.2 c2 hc2.out _ ?_))
      unfold Hid
      intros
      rename_i hr19
      obtain ⟨rfl, rfl⟩ := hr19
      cases c2 with
      | true =>
        have Hq := Lib.hid (Hp.out false W H0.out (by rw [Hpm.out]; rfl))
        go_wp2_with fail
        first | exact Hq.out | (go_ret; exact Hq.out)
      | false =>
        have Hpm2 : Hid (plainM m = true) := Hpm.out
        iterate 12 (first | done | exact msgR_body m W B ae ax ay az ce cx cy cz G (fun w' h => HB.out w' (H0.out.trans (h.mono H0.out.size))) (fun w' h => HE.out w' (H0.out.trans (h.mono H0.out.size))) (fun w' h => HC.out w' (H0.out.trans (h.mono H0.out.size))) post (fun b w' h0 h2 => have h1 := H0.out.trans (h0.mono H0.out.size); Hp.out b w' h1 (by rw [Hpm2.out, h2]; rfl)) hi1 hi2 a _ _ _ _ z ha hr hp hb hi hz | go_step)
    · first
      | refine piece_any (msgR_d19p m W B ae ax ay az ce cx cy cz (HB.out _ H0.out) rj hn ct z Hq19.out.1 Hq19.out.2.1 Hq19.out.2.2 c2 hc2.out _ ?_)
      | (go_step; refine piece_any (msgR_d19p m W B ae ax ay az ce cx cy cz (HB.out _ H0.out) rj hn ct z Hq19.out.1 Hq19.out.2.1 Hq19.out.2.2 c2 hc2.out _ ?_))
      | (go_step; go_step; refine piece_any (msgR_d19p m W B ae ax ay az ce cx cy cz (HB.out _ H0.out) rj hn ct z Hq19.out.1 Hq19.out.2.1 Hq19.out.2.2 c2 hc2.out _ ?_))
      | (go_step; go_step; go_step; refine piece_any (msgR_d19p m W B ae ax ay az ce cx cy cz (HB.out _ H0.out) rj hn ct z Hq19.out.1 Hq19.out.2.1 Hq19.out.2.2 c2 hc2.out _ ?_))
      | (go_step; go_step; go_step; go_step; refine piece_any (msgR_d19p m W B ae ax ay az ce cx cy cz (HB.out _ H0.out) rj hn ct z Hq19.out.1 Hq19.out.2.1 Hq19.out.2.2 c2 hc2.out _ ?_))
      | (go_step; go_step; go_step; go_step; go_step; refine piece_any (msgR_d19p m W B ae ax ay az ce cx cy cz (HB.out _ H0.out) rj hn ct z Hq19.out.1 Hq19.out.2.1 Hq19.out.2.2 c2 hc2.out _ ?_))
      | (go_step; go_step; go_step; go_step; go_step; go_step; refine piece_any (msgR_d19p m W B ae ax ay az ce cx cy cz (HB.out _ H0.out) rj hn ct z Hq19.out.1 Hq19.out.2.1 Hq19.out.2.2 c2 hc2.out _ ?_))
      | (go_step; go_step; go_step; go_step; go_step; go_step; go_step; refine piece_any (msgR_d19p m W B ae ax ay az ce cx cy cz (HB.out _ H0.out) rj hn ct z Hq19.out.1 Hq19.out.2.1 Hq19.out.2.2 c2 hc2.out _ ?_))
      | (go_step; go_step; go_step; go_step; go_step; go_step; go_step; go_step; refine piece_any (msgR_d19p m W B ae ax ay az ce cx cy cz (HB.out _ H0.out) rj hn ct z Hq19.out.1 Hq19.out.2.1 Hq19.out.2.2 c2 hc2.out _ ?_))
      | (go_step; go_step; go_step; go_step; go_step; go_step; go_step; go_step; go_step; refine piece_any (msgR_d19p m W B ae ax ay az ce cx cy cz (HB.out _ H0.out) rj hn ct z Hq19.out.1 Hq19.out.2.1 Hq19.out.2.2 c2 hc2.out _ ?_))
      | (go_step; go_step; go_step; go_step; go_step; go_step; go_step; go_step; go_step; go_step; refine piece_any (msgR_d19p m W B ae ax ay az ce cx cy cz (HB.out _ H0.out) rj hn ct z Hq19.out.1 Hq19.out.2.1 Hq19.out.2.2 c2 hc2.out _ ?_))
      | (go_step; go_step; go_step; go_step; go_step; go_step; go_step; go_step; go_step; go_step; go_step; refine piece_any (msgR_d19p m W B ae ax ay az ce cx cy cz (HB.out _ H0.out) rj hn ct z Hq19.out.1 Hq19.out.2.1 Hq19.out.2.2 c2 hc2.out _ ?_))
      | (go_step; go_step; go_step; go_step; go_step; go_step; go_step; go_step; go_step; go_step; go_step; go_step; refine piece_any (msgR_d19p m W B ae ax ay az ce cx cy cz (HB.out _ H0.out) rj hn ct z Hq19.out.1 Hq19.out.2.1 Hq19.out.2.2 c2 hc2.out _ ?_))
      unfold Hid
      intros
      rename_i hr19
      obtain ⟨rfl, rfl⟩ := hr19
      cases c2 with
      | true =>
        have Hq := Lib.hid (Hp.out false W H0.out (by rw [Hpm.out]; rfl))
        go_wp2_with fail
        first | exact Hq.out | (go_ret; exact Hq.out)
      | false =>
        have Hpm2 : Hid (plainM m = true) := Hpm.out
        iterate 12 (first | done | exact msgR_body m W B ae ax ay az ce cx cy cz G (fun w' h => HB.out w' (H0.out.trans (h.mono H0.out.size))) (fun w' h => HE.out w' (H0.out.trans (h.mono H0.out.size))) (fun w' h => HC.out w' (H0.out.trans (h.mono H0.out.size))) post (fun b w' h0 h2 => have h1 := H0.out.trans (h0.mono H0.out.size); Hp.out b w' h1 (by rw [Hpm2.out, h2]; rfl)) hi1 hi2 a _ _ _ _ z ha hr hp hb hi hz | go_step)
    · first
      | refine piece_any (msgR_d19i m W B ae ax ay az ce cx cy cz (HB.out _ H0.out) rj hn ct z Hq19.out.1 Hq19.out.2.1 Hq19.out.2.2 c2 hc2.out _ ?_)
      | (go_step; refine piece_any (msgR_d19i m W B ae ax ay az ce cx cy cz (HB.out _ H0.out) rj hn ct z Hq19.out.1 Hq19.out.2.1 Hq19.out.2.2 c2 hc2.out _ ?_))
      | (go_step; go_step; refine piece_any (msgR_d19i m W B ae ax ay az ce cx cy cz (HB.out _ H0.out) rj hn ct z Hq19.out.1 Hq19.out.2.1 Hq19.out.2.2 c2 hc2.out _ ?_))
      | (go_step; go_step; go_step; refine piece_any (msgR_d19i m W B ae ax ay az ce cx cy cz (HB.out _ H0.out) rj hn ct z Hq19.out.1 Hq19.out.2.1 Hq19.out.2.2 c2 hc2.out _ ?_))
      | (go_step; go_step; go_step; go_step; refine piece_any (msgR_d19i m W B ae ax ay az ce cx cy cz (HB.out _ H0.out) rj hn ct z Hq19.out.1 Hq19.out.2.1 Hq19.out.2.2 c2 hc2.out _ ?_))
      | (go_step; go_step; go_step; go_step; go_step; refine piece_any (msgR_d19i m W B ae ax ay az ce cx cy cz (HB.out _ H0.out) rj hn ct z Hq19.out.1 Hq19.out.2.1 Hq19.out.2.2 c2 hc2.out _ ?_))
      | (go_step; go_step; go_step; go_step; go_step; go_step; refine piece_any (msgR_d19i m W B ae ax ay az ce cx cy cz (HB.out _ H0.out) rj hn ct z Hq19.out.1 Hq19.out.2.1 Hq19.out.2.2 c2 hc2.out _ ?_))
      | (go_step; go_step; go_step; go_step; go_step; go_step; go_step; refine piece_any (msgR_d19i m W B ae ax ay az ce cx cy cz (HB.out _ H0.out) rj hn ct z Hq19.out.1 Hq19.out.2.1 Hq19.out.2.2 c2 hc2.out _ ?_))
      | (go_step; go_step; go_step; go_step; go_step; go_step; go_step; go_step; refine piece_any (msgR_d19i m W B ae ax ay az ce cx cy cz (HB.out _ H0.out) rj hn ct z Hq19.out.1 Hq19.out.2.1 Hq19.out.2.2 c2 hc2.out _ ?_))
      | (go_step; go_step; go_step; go_step; go_step; go_step; go_step; go_step; go_step; refine piece_any (msgR_d19i m W B ae ax ay az ce cx cy cz (HB.out _ H0.out) rj hn ct z Hq19.out.1 Hq19.out.2.1 Hq19.out.2.2 c2 hc2.out _ ?_))
      | (go_step; go_step; go_step; go_step; go_step; go_step; go_step; go_step; go_step; go_step; refine piece_any (msgR_d19i m W B ae ax ay az ce cx cy cz (HB.out _ H0.out) rj hn ct z Hq19.out.1 Hq19.out.2.1 Hq19.out.2.2 c2 hc2.out _ ?_))
      | (go_step; go_step; go_step; go_step; go_step; go_step; go_step; go_step; go_step; go_step; go_step; refine piece_any (msgR_d19i m W B ae ax ay az ce cx cy cz (HB.out _ H0.out) rj hn ct z Hq19.out.1 Hq19.out.2.1 Hq19.out.2.2 c2 hc2.out _ ?_))
      | (go_step; go_step; go_step; go_step; go_step; go_step; go_step; go_step; go_step; go_step; go_step; go_step; refine piece_any (msgR_d19i m W B ae ax ay az ce cx cy cz (HB.out _ H0.out) rj hn ct z Hq19.out.1 Hq19.out.2.1 Hq19.out.2.2 c2 hc2.out _ ?_))
      unfold Hid
      intros
      rename_i hr19
      obtain ⟨rfl, rfl⟩ := hr19
      cases c2 with
      | true =>
        have Hq := Lib.hid (Hp.out false W H0.out (by rw [Hpm.out]; rfl))
        go_wp2_with fail
        first | exact Hq.out | (go_ret; exact Hq.out)
      | false =>
        have Hpm2 : Hid (plainM m = true) := Hpm.out
        iterate 12 (first | done | exact msgR_body m W B ae ax ay az ce cx cy cz G (fun w' h => HB.out w' (H0.out.trans (h.mono H0.out.size))) (fun w' h => HE.out w' (H0.out.trans (h.mono H0.out.size))) (fun w' h => HC.out w' (H0.out.trans (h.mono H0.out.size))) post (fun b w' h0 h2 => have h1 := H0.out.trans (h0.mono H0.out.size); Hp.out b w' h1 (by rw [Hpm2.out, h2]; rfl)) hi1 hi2 a _ _ _ _ z ha hr hp hb hi hz | go_step)
    · first
      | refine piece_any (msgR_d19n m W B ae ax ay az ce cx cy cz (HB.out _ H0.out) rj hn ct z Hq19.out.1 Hq19.out.2.1 Hq19.out.2.2 c2 hc2.out _ ?_)
      | (go_step; refine piece_any (msgR_d19n m W B ae ax ay az ce cx cy cz (HB.out _ H0.out) rj hn ct z Hq19.out.1 Hq19.out.2.1 Hq19.out.2.2 c2 hc2.out _ ?_))
      | (go_step; go_step; refine piece_any (msgR_d19n m W B ae ax ay az ce cx cy cz (HB.out _ H0.out) rj hn ct z Hq19.out.1 Hq19.out.2.1 Hq19.out.2.2 c2 hc2.out _ ?_))
      | (go_step; go_step; go_step; refine piece_any (msgR_d19n m W B ae ax ay az ce cx cy cz (HB.out _ H0.out) rj hn ct z Hq19.out.1 Hq19.out.2.1 Hq19.out.2.2 c2 hc2.out _ ?_))
      | (go_step; go_step; go_step; go_step; refine piece_any (msgR_d19n m W B ae ax ay az ce cx cy cz (HB.out _ H0.out) rj hn ct z Hq19.out.1 Hq19.out.2.1 Hq19.out.2.2 c2 hc2.out _ ?_))
      | (go_step; go_step; go_step; go_step; go_step; refine piece_any (msgR_d19n m W B ae ax ay az ce cx cy cz (HB.out _ H0.out) rj hn ct z Hq19.out.1 Hq19.out.2.1 Hq19.out.2.2 c2 hc2.out _ ?_))
      | (go_step; go_step; go_step; go_step; go_step; go_step; refine piece_any (msgR_d19n m W B ae ax ay az ce cx cy cz (HB.out _ H0.out) rj hn ct z Hq19.out.1 Hq19.out.2.1 Hq19.out.2.2 c2 hc2.out _ ?_))
      | (go_step; go_step; go_step; go_step; go_step; go_step; go_step; refine piece_any (msgR_d19n m W B ae ax ay az ce cx cy cz (HB.out _ H0.out) rj hn ct z Hq19.out.1 Hq19.out.2.1 Hq19.out.2.2 c2 hc2.out _ ?_))
      | (go_step; go_step; go_step; go_step; go_step; go_step; go_step; go_step; refine piece_any (msgR_d19n m W B ae ax ay az ce cx cy cz (HB.out _ H0.out) rj hn ct z Hq19.out.1 Hq19.out.2.1 Hq19.out.2.2 c2 hc2.out _ ?_))
      | (go_step; go_step; go_step; go_step; go_step; go_step; go_step; go_step; go_step; refine piece_any (msgR_d19n m W B ae ax ay az ce cx cy cz (HB.out _ H0.out) rj hn ct z Hq19.out.1 Hq19.out.2.1 Hq19.out.2.2 c2 hc2.out _ ?_))
      | (go_step; go_step; go_step; go_step; go_step; go_step; go_step; go_step; go_step; go_step; refine piece_any (msgR_d19n m W B ae ax ay az ce cx cy cz (HB.out _ H0.out) rj hn ct z Hq19.out.1 Hq19.out.2.1 Hq19.out.2.2 c2 hc2.out _ ?_))
      | (go_step; go_step; go_step; go_step; go_step; go_step; go_step; go_step; go_step; go_step; go_step; refine piece_any (msgR_d19n m W B ae ax ay az ce cx cy cz (HB.out _ H0.out) rj hn ct z Hq19.out.1 Hq19.out.2.1 Hq19.out.2.2 c2 hc2.out _ ?_))
      | (go_step; go_step; go_step; go_step; go_step; go_step; go_step; go_step; go_step; go_step; go_step; go_step; refine piece_any (msgR_d19n m W B ae ax ay az ce cx cy cz (HB.out _ H0.out) rj hn ct z Hq19.out.1 Hq19.out.2.1 Hq19.out.2.2 c2 hc2.out _ ?_))
      unfold Hid
      intros
      rename_i hr19
      obtain ⟨rfl, rfl⟩ := hr19
      cases c2 with
      | true =>
        have Hq := Lib.hid (Hp.out false W H0.out (by rw [Hpm.out]; rfl))
        go_wp2_with fail
        first | exact Hq.out | (go_ret; exact Hq.out)
      | false =>
        have Hpm2 : Hid (plainM m = true) := Hpm.out
        iterate 12 (first | done | exact msgR_body m W B ae ax ay az ce cx cy cz G (fun w' h => HB.out w' (H0.out.trans (h.mono H0.out.size))) (fun w' h => HE.out w' (H0.out.trans (h.mono H0.out.size))) (fun w' h => HC.out w' (H0.out.trans (h.mono H0.out.size))) post (fun b w' h0 h2 => have h1 := H0.out.trans (h0.mono H0.out.size); Hp.out b w' h1 (by rw [Hpm2.out, h2]; rfl)) hi1 hi2 a _ _ _ _ z ha hr hp hb hi hz | go_step)
end Go.Proofs.Ytkcllpbbjlbfaaa

namespace Go.Proofs.Ytkcllpbbjlbfaaa
open Go.RowKit Wm Mm Lg
set_option linter.unusedVariables false
set_option linter.unusedSimpArgs false

def numsL (m : Msg) : List Int := [m.index, m.logTerm, m.commit, m.hint, m.ctx]
theorem numsM_no (m : Msg) {k : Nat} (hk : k < 5) (h : big ((numsL m).getD k 0) = false) : numsM m = false := by
  unfold numsM
  match k, hk, h with
  | 0, _, h => (have h : big m.index = false := h); rw [h]; rfl
  | 1, _, h => (have h : big m.logTerm = false := h); rw [h]; simp
  | 2, _, h => (have h : big m.commit = false := h); rw [h]; simp
  | 3, _, h => (have h : big m.hint = false := h); rw [h]; simp
  | 4, _, h => (have h : big m.ctx = false := h); rw [h]; simp
theorem numsM_all (m : Msg) (h : ∀ j, j < 5 → big ((numsL m).getD j 0) = true) : numsM m = true ∧ 0 ≤ m.index ∧ m.index ≤ 1099511627775 := by
  have h0 : big m.index = true := h 0 (by omega)
  have h1 : big m.logTerm = true := h 1 (by omega)
  have h2 : big m.commit = true := h 2 (by omega)
  have h3 : big m.hint = true := h 3 (by omega)
  have h4 : big m.ctx = true := h 4 (by omega)
  refine ⟨by unfold numsM; rw [h0, h1, h2, h3, h4]; rfl, ?_⟩
  unfold big inB at h0
  simp at h0
  exact h0
theorem notlt (x y : Int) : decide (y ≤ x) = !(decide (x < y)) := by by_cases h : y ≤ x <;> simp [h] <;> omega
set_option maxHeartbeats 4000000 in
set_option maxRecDepth 100000 in
theorem msgR_nums {v0 v2 v9 v10 v11 v12 v13 v14 v15 v16 v17 v18 v19 v20 v21 v22 v23 v24 v25 v26 v27 v28 v29 v30 v31 v32 v33 v34 v35 v36 v37 v38 v39 v40 v41 v42 v43 v44 v45 v46 v47 v48 v49 v50 v51 v52 v53 v54 v55 v56 v57 v58 v59 v60 v61 v62 v63 v64 v65 v66 v67 v68 v69 v70 v71 v72 v73 v74 v75 v76 v77 v78 v79 v80 v81 v82 v83 v84 v85 v86 v87 v88 v89 v90 v91 v92 v93 v94 v95 v96 v97 v98 v99 v100 v101 v102 v103 v104 v105 v106 v107 v108 v109 v110 v111 v112 v113 v114 v115 v116 v117 v118 v119 v120 v121 v122 v123 v124 v125 v126 v127 v128 v129 v130 v131 v132 v133 v134 v135 v136 v137 v138 v139 v140 v141 v142 v143 v144 v145 v146 v147 v148 v149 v150 v151 v152 v153 v154 v155 v156 v157 v158 v159 v160 v161 v162 v163 v164 v165 v166 v167 v168 v169 v170 v171 v172 v173 v174 v175 v176 v177 v178 v179 v180 v181 v182 v183 v184 v185 v186 v187 v188 v189 v190 v191 v192 v193 v194 v195 v196 v197 v198 v199 v200 v201 v202 v203 v204 v205 v206 v207 v208 v209 v210 v211 v212 v213 v214 v215 v216 v217 v218 v219 v220 v221 v222 v223 v224 v225 v226 v227 v228 v229 v230 v231 v232 v233 v234 v235 v236 v237 v238 v239 v240 v241 v242 v243 v244 v245 v246 v247 v248 v249 v250 v251 v252 v253 v254 v255 v256 v257 v258 v259 v260 v261 v262 v263 v264 v265 v266 v267 v268 v269 v270 v271 v272 v273 v274 v275 v276 v277 v278 v279 v280 v281 v282 v283 v284 v285 v286 v287 v288 v289 v290 v291 v292 v293 v294 v295 v296 v297 v298 v299 v300 v301 v302 v303 v304 : Value} (m : Msg) (W : World) (B : Nat) (ae ax ay az : Option Addr) (ce cx cy cz : Nat) (G : Nat → Prop)
    (HB : Hid (∀ w', Below W.heap.size W w' → w'.heap[B]? = some (.cells (rowMsg m (.slice ae m.ents.length ce) (.slice ax m.sc.v.length cx) (.slice ay m.sc.n.length cy) (.slice az m.sc.l.length cz)).toArray 29 (0, 0)))) (HE : Hid (∀ w', Below W.heap.size W w' → Ents G w' (.slice ae m.ents.length ce) m.ents)) (HC : Hid (∀ w', Below W.heap.size W w' → Config3 w' (.slice ax m.sc.v.length cx) (.slice ay m.sc.n.length cy) (.slice az m.sc.l.length cz) m.sc))
    (post : Ending → World → Prop) (Hp : Hid (∀ b w', Below W.heap.size W w' → (numsM m && (plainM m && bodyM m)) = b → post (.returned (.bool b)) w')) (a r p b i z : Bool) (ha : Hid (askB m.kind = a)) (hr : Hid (repB m.kind = r)) (hp : Hid ((m.kind == 5) = p)) (hb : Hid ((m.kind == 6) = b)) (hi : Hid ((m.kind == 7) = i)) (hz : Hid (noneS m = z)) :
    Code.wp Try.prog ((Try.f16.body.bind (seqAt 11)).getD .skip) (bodyPost Try.prog Try.f16 post) ⟨#[v0, .pointer (some ⟨B, 0, none⟩), v2, .bool z, .bool a, .bool r, .bool p, .bool b, .bool i, v9, v10, v11, v12, v13, v14, v15, v16, v17, v18, v19, v20, v21, v22, v23, v24, v25, v26, v27, v28, v29, v30, v31, v32, v33, v34, v35, v36, v37, v38, v39, v40, v41, v42, v43, v44, v45, v46, v47, v48, v49, v50, v51, v52, v53, v54, v55, v56, v57, v58, v59, v60, v61, v62, v63, v64, v65, v66, v67, v68, v69, v70, v71, v72, v73, v74, v75, v76, v77, v78, v79, v80, v81, v82, v83, v84, v85, v86, v87, v88, v89, v90, v91, v92, v93, v94, v95, v96, v97, v98, v99, v100, v101, v102, v103, v104, v105, v106, v107, v108, v109, v110, v111, v112, v113, v114, v115, v116, v117, v118, v119, v120, v121, v122, v123, v124, v125, v126, v127, v128, v129, v130, v131, v132, v133, v134, v135, v136, v137, v138, v139, v140, v141, v142, v143, v144, v145, v146, v147, v148, v149, v150, v151, v152, v153, v154, v155, v156, v157, v158, v159, v160, v161, v162, v163, v164, v165, v166, v167, v168, v169, v170, v171, v172, v173, v174, v175, v176, v177, v178, v179, v180, v181, v182, v183, v184, v185, v186, v187, v188, v189, v190, v191, v192, v193, v194, v195, v196, v197, v198, v199, v200, v201, v202, v203, v204, v205, v206, v207, v208, v209, v210, v211, v212, v213, v214, v215, v216, v217, v218, v219, v220, v221, v222, v223, v224, v225, v226, v227, v228, v229, v230, v231, v232, v233, v234, v235, v236, v237, v238, v239, v240, v241, v242, v243, v244, v245, v246, v247, v248, v249, v250, v251, v252, v253, v254, v255, v256, v257, v258, v259, v260, v261, v262, v263, v264, v265, v266, v267, v268, v269, v270, v271, v272, v273, v274, v275, v276, v277, v278, v279, v280, v281, v282, v283, v284, v285, v286, v287, v288, v289, v290, v291, v292, v293, v294, v295, v296, v297, v298, v299, v300, v301, v302, v303, v304], []⟩ W := by
  conv => arg 2; whnf
  have H0 : Hid (Below W.heap.size W W) := Below.refl _ _
  have a4 : W.cell? ⟨B, 4, none⟩ = some (.int .i64 m.index) := cell_n (HB.out _ H0.out) 4 rfl
  have a5 : W.cell? ⟨B, 5, none⟩ = some (.int .i64 m.logTerm) := cell_n (HB.out _ H0.out) 5 rfl
  have a6 : W.cell? ⟨B, 6, none⟩ = some (.int .i64 m.commit) := cell_n (HB.out _ H0.out) 6 rfl
  have a15 : W.cell? ⟨B, 15, none⟩ = some (.int .i64 m.hint) := cell_n (HB.out _ H0.out) 15 rfl
  have a16 : W.cell? ⟨B, 16, none⟩ = some (.int .i64 m.ctx) := cell_n (HB.out _ H0.out) 16 rfl
  obtain ⟨V, hV⟩ := hide (W.alloc (.cells #[.int .i64 m.index, .int .i64 m.logTerm, .int .i64 m.commit, .int .i64 m.hint, .int .i64 m.ctx] 3))
  obtain ⟨C, hC⟩ := hide W.heap.size
  have hx : V.heap[C]? = some (.cells ((numsL m).map (Value.int .i64)).toArray 3 (0, 0)) := by rw [← hV.out, ← hC.out]; exact hp_at _ _ rfl
  have HV : Hid (Below W.heap.size W V) := by show Below _ _ _; rw [← hV.out]; exact (Below.refl _ _).alloc (Nat.le_refl _) _
  have HX : Hid (∀ w', Below V.heap.size V w' → w'.heap[C]? = some (.cells ((numsL m).map (Value.int .i64)).toArray 3 (0, 0)) ∧ Below W.heap.size W w') := fun w' h => ⟨(h.block C (lt_of_block hx)).trans hx, HV.out.trans (h.mono HV.out.size)⟩
  clear hx
  go_upto_region 12 with fail
  rw [hV.out, hC.out]
  clear a4 a5 a6 a15 a16
  have HV0 : Hid (Below V.heap.size V V) := Below.refl _ _
  go_wp2_with fail
  go_loopw [10] (fun c10 wr => ∃ k : Nat, c10 = .int .i64 (k : Int) ∧ k ≤ 5 ∧ Hid (∀ j, j < k → big ((numsL m).getD j 0) = true) ∧ Hid (Below V.heap.size V wr)) (fun i _ => 5 - (intOf i).toNat)
  case atStart => exact ⟨0, rfl, by omega, fun j hj => absurd hj (Nat.not_lt_zero _), HV0⟩
  case round =>
    rename_i K1 hK1
    obtain ⟨k, rfl, hk, HF, HB2⟩ := hrel
    have hx := (HX.out _ HB2.out).1
    have HW : Hid (Below W.heap.size W wr) := (HX.out _ HB2.out).2
    by_cases hlt : k < 5
    · have m0 : wr.cell? ⟨C, k, none⟩ = some (.int .i64 ((numsL m).getD k 0)) := by
        refine cell_n hx k ?_
        have hl : (numsL m).length = 5 := rfl
        rw [List.getElem?_toArray, List.getElem?_map, List.getD_eq_getElem?_getD, List.getElem?_eq_getElem (by omega)]
        rfl
      have Hno : Hid (big ((numsL m).getD k 0) = false → numsM m = false) := fun h => numsM_no m hlt h
      obtain ⟨x, hxx⟩ := hide ((numsL m).getD k 0)
      have Hgo : Hid (big x = true → ∀ j, j < k + 1 → big ((numsL m).getD j 0) = true) := by
        show _ → ∀ j, _ → _
        intro h j hj
        rcases Nat.lt_or_eq_of_le (Nat.le_of_lt_succ hj) with h1 | rfl
        · exact HF.out j h1
        · rw [hxx.out]; exact h
      rw [hxx.out] at m0 Hno
      obtain ⟨t0, h0⟩ := hide (decide (x < 0))
      obtain ⟨t1, h1⟩ := hide (decide (1099511627775 < x))
      have hbg : Hid (big x = (!t0 && !t1)) := by show _ = _; unfold big inB; rw [notlt, h0.out, notlt, h1.out]
      have q0 := h0.out
      have q1 := h1.out
      have hk6 : k < 6 := by omega
      clear hx h0 h1 hxx
      cases t0 with
      | true =>
        have Hq := Lib.hid (Hp.out false _ HW.out (by rw [Hno.out hbg.out]; rfl))
        go_wp2_with fail
        first | exact Hq.out | (go_ret; exact Hq.out)
      | false =>
      cases t1 with
      | true =>
        have Hq := Lib.hid (Hp.out false _ HW.out (by rw [Hno.out hbg.out]; rfl))
        go_wp2_with fail
        first | exact Hq.out | (go_ret; exact Hq.out)
      | false =>
      have HF2 := Lib.hid (Hgo.out hbg.out)
      go_wp2_with fail
      go_roundw
      case rel => exact ⟨k + 1, by go_num, hlt, HF2, HB2⟩
      case measure => simp [intOf]; omega
    · obtain rfl : k = 5 := by omega
      obtain ⟨hn, hi1, hi2⟩ := numsM_all m HF.out
      have Hn := Lib.hid hn
      clear hlt hx hn
      go_upto_if 117 with (fail)
      iterate 12 (first | done | (refine hK1 _ _ ?_; exact msgR_plain m wr B ae ax ay az ce cx cy cz G (fun w' h => HB.out w' (HW.out.trans (h.mono HW.out.size))) (fun w' h => HE.out w' (HW.out.trans (h.mono HW.out.size))) (fun w' h => HC.out w' (HW.out.trans (h.mono HW.out.size))) post (fun b w' h0 h2 => have h1 := HW.out.trans (h0.mono HW.out.size); Hp.out b w' h1 (by rw [Hn.out, h2]; rfl)) hi1 hi2 a r p b i z ha hr hp hb hi hz) | exact msgR_plain m wr B ae ax ay az ce cx cy cz G (fun w' h => HB.out w' (HW.out.trans (h.mono HW.out.size))) (fun w' h => HE.out w' (HW.out.trans (h.mono HW.out.size))) (fun w' h => HC.out w' (HW.out.trans (h.mono HW.out.size))) post (fun b w' h0 h2 => have h1 := HW.out.trans (h0.mono HW.out.size); Hp.out b w' h1 (by rw [Hn.out, h2]; rfl)) hi1 hi2 a r p b i z ha hr hp hb hi hz | go_step)
set_option maxHeartbeats 4000000 in
set_option maxRecDepth 100000 in
theorem msgR_term {v0 v2 v9 v10 v11 v12 v13 v14 v15 v16 v17 v18 v19 v20 v21 v22 v23 v24 v25 v26 v27 v28 v29 v30 v31 v32 v33 v34 v35 v36 v37 v38 v39 v40 v41 v42 v43 v44 v45 v46 v47 v48 v49 v50 v51 v52 v53 v54 v55 v56 v57 v58 v59 v60 v61 v62 v63 v64 v65 v66 v67 v68 v69 v70 v71 v72 v73 v74 v75 v76 v77 v78 v79 v80 v81 v82 v83 v84 v85 v86 v87 v88 v89 v90 v91 v92 v93 v94 v95 v96 v97 v98 v99 v100 v101 v102 v103 v104 v105 v106 v107 v108 v109 v110 v111 v112 v113 v114 v115 v116 v117 v118 v119 v120 v121 v122 v123 v124 v125 v126 v127 v128 v129 v130 v131 v132 v133 v134 v135 v136 v137 v138 v139 v140 v141 v142 v143 v144 v145 v146 v147 v148 v149 v150 v151 v152 v153 v154 v155 v156 v157 v158 v159 v160 v161 v162 v163 v164 v165 v166 v167 v168 v169 v170 v171 v172 v173 v174 v175 v176 v177 v178 v179 v180 v181 v182 v183 v184 v185 v186 v187 v188 v189 v190 v191 v192 v193 v194 v195 v196 v197 v198 v199 v200 v201 v202 v203 v204 v205 v206 v207 v208 v209 v210 v211 v212 v213 v214 v215 v216 v217 v218 v219 v220 v221 v222 v223 v224 v225 v226 v227 v228 v229 v230 v231 v232 v233 v234 v235 v236 v237 v238 v239 v240 v241 v242 v243 v244 v245 v246 v247 v248 v249 v250 v251 v252 v253 v254 v255 v256 v257 v258 v259 v260 v261 v262 v263 v264 v265 v266 v267 v268 v269 v270 v271 v272 v273 v274 v275 v276 v277 v278 v279 v280 v281 v282 v283 v284 v285 v286 v287 v288 v289 v290 v291 v292 v293 v294 v295 v296 v297 v298 v299 v300 v301 v302 v303 v304 : Value} (m : Msg) (W : World) (B : Nat) (ae ax ay az : Option Addr) (ce cx cy cz : Nat) (G : Nat → Prop)
    (HB : Hid (∀ w', Below W.heap.size W w' → w'.heap[B]? = some (.cells (rowMsg m (.slice ae m.ents.length ce) (.slice ax m.sc.v.length cx) (.slice ay m.sc.n.length cy) (.slice az m.sc.l.length cz)).toArray 29 (0, 0)))) (HE : Hid (∀ w', Below W.heap.size W w' → Ents G w' (.slice ae m.ents.length ce) m.ents)) (HC : Hid (∀ w', Below W.heap.size W w' → Config3 w' (.slice ax m.sc.v.length cx) (.slice ay m.sc.n.length cy) (.slice az m.sc.l.length cz) m.sc))
    (post : Ending → World → Prop) (Hp : Hid (∀ b w', Below W.heap.size W w' → ((inB m.term 0 1099511627775 && !((m.term == 0) && !((m.kind == 2) && m.rej))) && (numsM m && (plainM m && bodyM m))) = b → post (.returned (.bool b)) w')) (a r p b i z : Bool) (ha : Hid (askB m.kind = a)) (hr : Hid (repB m.kind = r)) (hp : Hid ((m.kind == 5) = p)) (hb : Hid ((m.kind == 6) = b)) (hi : Hid ((m.kind == 7) = i)) (hz : Hid (noneS m = z)) :
    Code.wp Try.prog ((Try.f16.body.bind (seqAt 9)).getD .skip) (bodyPost Try.prog Try.f16 post) ⟨#[v0, .pointer (some ⟨B, 0, none⟩), v2, .bool z, .bool a, .bool r, .bool p, .bool b, .bool i, v9, v10, v11, v12, v13, v14, v15, v16, v17, v18, v19, v20, v21, v22, v23, v24, v25, v26, v27, v28, v29, v30, v31, v32, v33, v34, v35, v36, v37, v38, v39, v40, v41, v42, v43, v44, v45, v46, v47, v48, v49, v50, v51, v52, v53, v54, v55, v56, v57, v58, v59, v60, v61, v62, v63, v64, v65, v66, v67, v68, v69, v70, v71, v72, v73, v74, v75, v76, v77, v78, v79, v80, v81, v82, v83, v84, v85, v86, v87, v88, v89, v90, v91, v92, v93, v94, v95, v96, v97, v98, v99, v100, v101, v102, v103, v104, v105, v106, v107, v108, v109, v110, v111, v112, v113, v114, v115, v116, v117, v118, v119, v120, v121, v122, v123, v124, v125, v126, v127, v128, v129, v130, v131, v132, v133, v134, v135, v136, v137, v138, v139, v140, v141, v142, v143, v144, v145, v146, v147, v148, v149, v150, v151, v152, v153, v154, v155, v156, v157, v158, v159, v160, v161, v162, v163, v164, v165, v166, v167, v168, v169, v170, v171, v172, v173, v174, v175, v176, v177, v178, v179, v180, v181, v182, v183, v184, v185, v186, v187, v188, v189, v190, v191, v192, v193, v194, v195, v196, v197, v198, v199, v200, v201, v202, v203, v204, v205, v206, v207, v208, v209, v210, v211, v212, v213, v214, v215, v216, v217, v218, v219, v220, v221, v222, v223, v224, v225, v226, v227, v228, v229, v230, v231, v232, v233, v234, v235, v236, v237, v238, v239, v240, v241, v242, v243, v244, v245, v246, v247, v248, v249, v250, v251, v252, v253, v254, v255, v256, v257, v258, v259, v260, v261, v262, v263, v264, v265, v266, v267, v268, v269, v270, v271, v272, v273, v274, v275, v276, v277, v278, v279, v280, v281, v282, v283, v284, v285, v286, v287, v288, v289, v290, v291, v292, v293, v294, v295, v296, v297, v298, v299, v300, v301, v302, v303, v304], []⟩ W := by
  conv => arg 2; whnf
  have H0 : Hid (Below W.heap.size W W) := Below.refl _ _
  have a0 : W.cell? ⟨B, 0, none⟩ = some (.int .i64 m.kind) := cell_n (HB.out _ H0.out) 0 rfl
  have a3 : W.cell? ⟨B, 3, none⟩ = some (.int .i64 m.term) := cell_n (HB.out _ H0.out) 3 rfl
  have a14 : W.cell? ⟨B, 14, none⟩ = some (.bool m.rej) := cell_n (HB.out _ H0.out) 14 rfl
  have hpm : (inB m.term 0 1099511627775 && !((m.term == 0) && !((m.kind == 2) && m.rej))) = !((decide (m.term < 0) || decide (1099511627775 < m.term)) || ((m.term == 0) && ((m.kind != 2) || !m.rej))) := by
    unfold inB
    rw [notlt, notlt, show (m.kind == 2) = !(m.kind != 2) from by simp [bne]]
    simp only [Bool.not_or, Bool.not_and, Bool.not_not]
  obtain ⟨t0, h0⟩ := hide (decide (m.term < 0))
  obtain ⟨t1, h1⟩ := hide (decide (1099511627775 < m.term))
  obtain ⟨tz, h2⟩ := hide (m.term == 0)
  obtain ⟨kn, h3⟩ := hide (m.kind != 2)
  obtain ⟨rj, h4⟩ := hide m.rej
  have Hp1 := Hp
  rw [hpm] at Hp1
  rw [h0.out, h1.out, h2.out, h3.out, h4.out] at Hp1
  rw [h4.out] at a14
  have q0 := h0.out
  have q1 := h1.out
  have q2 := h2.out
  have q3 := h3.out
  clear hpm Hp
  obtain ⟨c1, hc1⟩ := hide ((t0 || t1) || (tz && (kn || !rj)))
  go_upto_region 9 with fail
  try dsimp only
  go_cut [102] from 80 to 102 (fun u wx => u = .bool c1 ∧ W = wx)
  case first =>
    cases t0 with
    | true =>
      go_wp2_with fail
      go_meet
      exact ⟨by rw [← hc1.out]; first | rfl | simp, rfl⟩
    | false =>
      cases t1 with
      | true =>
        go_wp2_with fail
        go_meet
        exact ⟨by rw [← hc1.out]; first | rfl | simp, rfl⟩
      | false =>
        cases tz with
        | true =>
          cases kn with
          | true =>
            go_wp2_with fail
            go_meet
            exact ⟨by rw [← hc1.out]; first | rfl | simp, rfl⟩
          | false =>
            cases rj with
            | true =>
              go_wp2_with fail
              go_meet
              exact ⟨by rw [← hc1.out]; first | rfl | simp, rfl⟩
            | false =>
              go_wp2_with fail
              go_meet
              exact ⟨by rw [← hc1.out]; first | rfl | simp, rfl⟩
        | false =>
          go_wp2_with fail
          go_meet
          exact ⟨by rw [← hc1.out]; first | rfl | simp, rfl⟩
  case rest =>
    obtain ⟨rfl, rfl⟩ := hcut
    rw [hc1.out] at Hp1
    cases c1 with
    | true =>
      have Hq := Lib.hid (Hp1.out false W H0.out rfl)
      go_wp2_with fail
      first | exact Hq.out | (go_ret; exact Hq.out)
    | false =>
      go_upto_if 102 with (fail)
      iterate 12 (first | done | exact msgR_nums m W B ae ax ay az ce cx cy cz G (fun w' h => HB.out w' (H0.out.trans (h.mono H0.out.size))) (fun w' h => HE.out w' (H0.out.trans (h.mono H0.out.size))) (fun w' h => HC.out w' (H0.out.trans (h.mono H0.out.size))) post (fun b w' h0 h2 => have h1 := H0.out.trans (h0.mono H0.out.size); Hp1.out b w' h1 (by rw [h2]; rfl)) a r p b i z ha hr hp hb hi hz | go_step)
set_option maxHeartbeats 4000000 in
set_option maxRecDepth 100000 in
theorem msgR_head {v0 v2 v9 v10 v11 v12 v13 v14 v15 v16 v17 v18 v19 v20 v21 v22 v23 v24 v25 v26 v27 v28 v29 v30 v31 v32 v33 v34 v35 v36 v37 v38 v39 v40 v41 v42 v43 v44 v45 v46 v47 v48 v49 v50 v51 v52 v53 v54 v55 v56 v57 v58 v59 v60 v61 v62 v63 v64 v65 v66 v67 v68 v69 v70 v71 v72 v73 v74 v75 v76 v77 v78 v79 v80 v81 v82 v83 v84 v85 v86 v87 v88 v89 v90 v91 v92 v93 v94 v95 v96 v97 v98 v99 v100 v101 v102 v103 v104 v105 v106 v107 v108 v109 v110 v111 v112 v113 v114 v115 v116 v117 v118 v119 v120 v121 v122 v123 v124 v125 v126 v127 v128 v129 v130 v131 v132 v133 v134 v135 v136 v137 v138 v139 v140 v141 v142 v143 v144 v145 v146 v147 v148 v149 v150 v151 v152 v153 v154 v155 v156 v157 v158 v159 v160 v161 v162 v163 v164 v165 v166 v167 v168 v169 v170 v171 v172 v173 v174 v175 v176 v177 v178 v179 v180 v181 v182 v183 v184 v185 v186 v187 v188 v189 v190 v191 v192 v193 v194 v195 v196 v197 v198 v199 v200 v201 v202 v203 v204 v205 v206 v207 v208 v209 v210 v211 v212 v213 v214 v215 v216 v217 v218 v219 v220 v221 v222 v223 v224 v225 v226 v227 v228 v229 v230 v231 v232 v233 v234 v235 v236 v237 v238 v239 v240 v241 v242 v243 v244 v245 v246 v247 v248 v249 v250 v251 v252 v253 v254 v255 v256 v257 v258 v259 v260 v261 v262 v263 v264 v265 v266 v267 v268 v269 v270 v271 v272 v273 v274 v275 v276 v277 v278 v279 v280 v281 v282 v283 v284 v285 v286 v287 v288 v289 v290 v291 v292 v293 v294 v295 v296 v297 v298 v299 v300 v301 v302 v303 v304 : Value} (m : Msg) (W : World) (B : Nat) (ae ax ay az : Option Addr) (ce cx cy cz : Nat) (G : Nat → Prop)
    (HB : Hid (∀ w', Below W.heap.size W w' → w'.heap[B]? = some (.cells (rowMsg m (.slice ae m.ents.length ce) (.slice ax m.sc.v.length cx) (.slice ay m.sc.n.length cy) (.slice az m.sc.l.length cz)).toArray 29 (0, 0)))) (HE : Hid (∀ w', Below W.heap.size W w' → Ents G w' (.slice ae m.ents.length ce) m.ents)) (HC : Hid (∀ w', Below W.heap.size W w' → Config3 w' (.slice ax m.sc.v.length cx) (.slice ay m.sc.n.length cy) (.slice az m.sc.l.length cz) m.sc))
    (post : Ending → World → Prop) (Hp : Hid (∀ b w', Below W.heap.size W w' → ((inB m.kind 1 7 && (inB m.frm 1 9 && (inB m.dst 1 9 && !(m.frm == m.dst)))) && ((inB m.term 0 1099511627775 && !((m.term == 0) && !((m.kind == 2) && m.rej))) && (numsM m && (plainM m && bodyM m)))) = b → post (.returned (.bool b)) w')) (a r p b i z : Bool) (ha : Hid (askB m.kind = a)) (hr : Hid (repB m.kind = r)) (hp : Hid ((m.kind == 5) = p)) (hb : Hid ((m.kind == 6) = b)) (hi : Hid ((m.kind == 7) = i)) (hz : Hid (noneS m = z)) :
    Code.wp Try.prog ((Try.f16.body.bind (seqAt 7)).getD .skip) (bodyPost Try.prog Try.f16 post) ⟨#[v0, .pointer (some ⟨B, 0, none⟩), v2, .bool z, .bool a, .bool r, .bool p, .bool b, .bool i, v9, v10, v11, v12, v13, v14, v15, v16, v17, v18, v19, v20, v21, v22, v23, v24, v25, v26, v27, v28, v29, v30, v31, v32, v33, v34, v35, v36, v37, v38, v39, v40, v41, v42, v43, v44, v45, v46, v47, v48, v49, v50, v51, v52, v53, v54, v55, v56, v57, v58, v59, v60, v61, v62, v63, v64, v65, v66, v67, v68, v69, v70, v71, v72, v73, v74, v75, v76, v77, v78, v79, v80, v81, v82, v83, v84, v85, v86, v87, v88, v89, v90, v91, v92, v93, v94, v95, v96, v97, v98, v99, v100, v101, v102, v103, v104, v105, v106, v107, v108, v109, v110, v111, v112, v113, v114, v115, v116, v117, v118, v119, v120, v121, v122, v123, v124, v125, v126, v127, v128, v129, v130, v131, v132, v133, v134, v135, v136, v137, v138, v139, v140, v141, v142, v143, v144, v145, v146, v147, v148, v149, v150, v151, v152, v153, v154, v155, v156, v157, v158, v159, v160, v161, v162, v163, v164, v165, v166, v167, v168, v169, v170, v171, v172, v173, v174, v175, v176, v177, v178, v179, v180, v181, v182, v183, v184, v185, v186, v187, v188, v189, v190, v191, v192, v193, v194, v195, v196, v197, v198, v199, v200, v201, v202, v203, v204, v205, v206, v207, v208, v209, v210, v211, v212, v213, v214, v215, v216, v217, v218, v219, v220, v221, v222, v223, v224, v225, v226, v227, v228, v229, v230, v231, v232, v233, v234, v235, v236, v237, v238, v239, v240, v241, v242, v243, v244, v245, v246, v247, v248, v249, v250, v251, v252, v253, v254, v255, v256, v257, v258, v259, v260, v261, v262, v263, v264, v265, v266, v267, v268, v269, v270, v271, v272, v273, v274, v275, v276, v277, v278, v279, v280, v281, v282, v283, v284, v285, v286, v287, v288, v289, v290, v291, v292, v293, v294, v295, v296, v297, v298, v299, v300, v301, v302, v303, v304], []⟩ W := by
  conv => arg 2; whnf
  have H0 : Hid (Below W.heap.size W W) := Below.refl _ _
  have a0 : W.cell? ⟨B, 0, none⟩ = some (.int .i64 m.kind) := cell_n (HB.out _ H0.out) 0 rfl
  have a1 : W.cell? ⟨B, 1, none⟩ = some (.int .i64 m.frm) := cell_n (HB.out _ H0.out) 1 rfl
  have a2 : W.cell? ⟨B, 2, none⟩ = some (.int .i64 m.dst) := cell_n (HB.out _ H0.out) 2 rfl
  have hpm : (inB m.kind 1 7 && (inB m.frm 1 9 && (inB m.dst 1 9 && !(m.frm == m.dst)))) = !((((((decide (m.kind < 1) || decide (7 < m.kind)) || decide (m.frm < 1)) || decide (9 < m.frm)) || decide (m.dst < 1)) || decide (9 < m.dst)) || (m.frm == m.dst)) := by
    unfold inB
    rw [notlt, notlt, notlt, notlt, notlt, notlt]
    simp only [Bool.not_or, Bool.and_assoc]
  obtain ⟨k0, h0⟩ := hide (decide (m.kind < 1))
  obtain ⟨k1, h1⟩ := hide (decide (7 < m.kind))
  obtain ⟨f0, h2⟩ := hide (decide (m.frm < 1))
  obtain ⟨f1, h3⟩ := hide (decide (9 < m.frm))
  obtain ⟨d0, h4⟩ := hide (decide (m.dst < 1))
  obtain ⟨d1, h5⟩ := hide (decide (9 < m.dst))
  obtain ⟨fd, h6⟩ := hide (m.frm == m.dst)
  have Hp1 := Hp
  rw [hpm] at Hp1
  rw [h0.out, h1.out, h2.out, h3.out, h4.out, h5.out, h6.out] at Hp1
  have q0 := h0.out
  have q1 := h1.out
  have q2 := h2.out
  have q3 := h3.out
  have q4 := h4.out
  have q5 := h5.out
  have q6 := h6.out
  clear hpm Hp
  obtain ⟨c1, hc1⟩ := hide ((((((k0 || k1) || f0) || f1) || d0) || d1) || fd)
  go_upto_region 7 with fail
  try dsimp only
  go_cut [79] from 45 to 79 (fun u wx => u = .bool c1 ∧ W = wx)
  case first =>
    cases k0 with
    | true =>
      go_wp2_with fail
      go_meet
      exact ⟨by rw [← hc1.out]; first | rfl | simp, rfl⟩
    | false =>
      cases k1 with
      | true =>
        go_wp2_with fail
        go_meet
        exact ⟨by rw [← hc1.out]; first | rfl | simp, rfl⟩
      | false =>
        cases f0 with
        | true =>
          go_wp2_with fail
          go_meet
          exact ⟨by rw [← hc1.out]; first | rfl | simp, rfl⟩
        | false =>
          cases f1 with
          | true =>
            go_wp2_with fail
            go_meet
            exact ⟨by rw [← hc1.out]; first | rfl | simp, rfl⟩
          | false =>
            cases d0 with
            | true =>
              go_wp2_with fail
              go_meet
              exact ⟨by rw [← hc1.out]; first | rfl | simp, rfl⟩
            | false =>
              cases d1 with
              | true =>
                go_wp2_with fail
                go_meet
                exact ⟨by rw [← hc1.out]; first | rfl | simp, rfl⟩
              | false =>
                cases fd with
                | true =>
                  go_wp2_with fail
                  go_meet
                  exact ⟨by rw [← hc1.out]; first | rfl | simp, rfl⟩
                | false =>
                  go_wp2_with fail
                  go_meet
                  exact ⟨by rw [← hc1.out]; first | rfl | simp, rfl⟩
  case rest =>
    obtain ⟨rfl, rfl⟩ := hcut
    rw [hc1.out] at Hp1
    cases c1 with
    | true =>
      have Hq := Lib.hid (Hp1.out false W H0.out rfl)
      go_wp2_with fail
      first | exact Hq.out | (go_ret; exact Hq.out)
    | false =>
      go_upto_if 79 with (fail)
      iterate 12 (first | done | exact msgR_term m W B ae ax ay az ce cx cy cz G (fun w' h => HB.out w' (H0.out.trans (h.mono H0.out.size))) (fun w' h => HE.out w' (H0.out.trans (h.mono H0.out.size))) (fun w' h => HC.out w' (H0.out.trans (h.mono H0.out.size))) post (fun b w' h0 h2 => have h1 := H0.out.trans (h0.mono H0.out.size); Hp1.out b w' h1 (by rw [h2]; rfl)) a r p b i z ha hr hp hb hi hz | go_step)
theorem isMsg_eq (m : Msg) : isMsg m = ((inB m.kind 1 7 && (inB m.frm 1 9 && (inB m.dst 1 9 && !(m.frm == m.dst)))) && ((inB m.term 0 1099511627775 && !((m.term == 0) && !((m.kind == 2) && m.rej))) && (numsM m && (plainM m && bodyM m)))) := by
  unfold isMsg headM
  generalize plainM m = a
  generalize numsM m = b
  generalize bodyM m = c
  generalize inB m.kind 1 7 = d
  generalize inB m.frm 1 9 = e
  generalize inB m.dst 1 9 = f
  generalize (m.frm == m.dst) = g
  generalize inB m.term 0 1099511627775 = h
  generalize (m.term == 0) = i
  generalize (m.kind == 2) = j
  generalize m.rej = k
  generalize (!(i && !(j && k))) = l
  generalize (!g) = n
  simp only [Bool.and_assoc]
  ac_rfl
set_option maxHeartbeats 4000000 in
set_option maxRecDepth 100000 in
theorem ref_isMessage (m : Msg) (ev x y z : Value) (F : Nat → Prop) (w : World) (hE : Ents F w ev m.ents) (hc : Config3 w x y z m.sc) :
    Calls Try.prog 16 #[vMsg m ev x y z] w fun e w' => e = .returned (.bool (isMsg m)) ∧ Below w.heap.size w w' := by
  obtain ⟨post, HP⟩ := hide (fun (e : Ending) (w' : World) => e = .returned (.bool (isMsg m)) ∧ Below w.heap.size w w')
  rw [HP.out]
  obtain ⟨ae, ce, rfl, _, _⟩ := hE.slice
  obtain ⟨ax, cx, rfl, _⟩ := len_of_Ints hc.v
  obtain ⟨ay, cy, rfl, _⟩ := len_of_Ints hc.n
  obtain ⟨az, cz, rfl, _⟩ := len_of_Ints hc.l
  obtain ⟨W1, hW1⟩ := hide (w.alloc (.cells (rowMsg m (.slice ae m.ents.length ce) (.slice ax m.sc.v.length cx) (.slice ay m.sc.n.length cy) (.slice az m.sc.l.length cz)).toArray 29))
  have hb1 : Below w.heap.size w W1 := by rw [← hW1.out]; exact (Below.refl _ _).alloc (Nat.le_refl _) _
  have hx1 : W1.heap[w.heap.size]? = some (.cells (rowMsg m (.slice ae m.ents.length ce) (.slice ax m.sc.v.length cx) (.slice ay m.sc.n.length cy) (.slice az m.sc.l.length cz)).toArray 29 (0, 0)) := by rw [← hW1.out]; exact hp_at _ _ rfl
  obtain ⟨B, hB⟩ := hide w.heap.size
  rw [hB.out] at hx1
  have HB : Hid (∀ w', Below W1.heap.size W1 w' → w'.heap[B]? = some (.cells (rowMsg m (.slice ae m.ents.length ce) (.slice ax m.sc.v.length cx) (.slice ay m.sc.n.length cy) (.slice az m.sc.l.length cz)).toArray 29 (0, 0))) := fun w' h => (h.block B (lt_of_block hx1)).trans hx1
  have HE : Hid (∀ w', Below W1.heap.size W1 w' → Ents F w' (.slice ae m.ents.length ce) m.ents) := fun w' h => hE.frame (Plain.good _) (Agree.below (hb1.trans (h.mono hb1.size)))
  have HC : Hid (∀ w', Below W1.heap.size W1 w' → Config3 w' (.slice ax m.sc.v.length cx) (.slice ay m.sc.n.length cy) (.slice az m.sc.l.length cz) m.sc) := fun w' h => hc.mono (hb1.trans (h.mono hb1.size))
  have Hp : Hid (∀ b w', Below W1.heap.size W1 w' → isMsg m = b → post (.returned (.bool b)) w') := by
    show ∀ b w', _ → _ → _
    intro b w' h h2
    rw [← HP.out, ← h2]; exact ⟨rfl, hb1.trans (h.mono hb1.size)⟩
  rw [isMsg_eq] at Hp
  have H0 : Hid (Below W1.heap.size W1 W1) := Below.refl _ _
  have K := ref_sameSnap m.si m.st (.slice ax m.sc.v.length cx) (.slice ay m.sc.n.length cy) (.slice az m.sc.l.length cz) m.sc m.sd 0 0 (.slice none 0 0) (.slice none 0 0) (.slice none 0 0) noConf [] W1 (HC.out _ H0.out) ⟨(IntsF.nil 0 _).ints, (IntsF.nil 0 _).ints, (IntsF.nil 0 _).ints⟩
  have hz0 : sameSnapB m.si m.st m.sc m.sd 0 0 noConf [] = noneS m := rfl
  rw [hz0] at K
  obtain ⟨z, hz⟩ := hide (noneS m)
  rw [hz.out] at K
  have K := Lib.hid K
  have a8 : W1.cell? ⟨B, 8, none⟩ = some (.int .i64 m.si) := cell_n (HB.out _ H0.out) 8 rfl
  have a9 : W1.cell? ⟨B, 9, none⟩ = some (.int .i64 m.st) := cell_n (HB.out _ H0.out) 9 rfl
  have a10 : W1.cell? ⟨B, 10, none⟩ = some (.slice ax m.sc.v.length cx) := cell_n (HB.out _ H0.out) 10 rfl
  have a11 : W1.cell? ⟨B, 11, none⟩ = some (.slice ay m.sc.n.length cy) := cell_n (HB.out _ H0.out) 11 rfl
  have a12 : W1.cell? ⟨B, 12, none⟩ = some (.slice az m.sc.l.length cz) := cell_n (HB.out _ H0.out) 12 rfl
  have a13 : W1.cell? ⟨B, 13, none⟩ = some (str m.sd) := cell_n (HB.out _ H0.out) 13 rfl
  clear hE hc hb1 hx1 hz0
  go_enter Try.func16, Try.ntmps16
  go_upto_region 1 with fail
  rw [hW1.out, hB.out]
  go_wp2_with fail
  refine K.out.mono ?_
  rintro e w2 ⟨rfl, hb2⟩
  have H2 : Hid (Below W1.heap.size W1 w2) := hb2
  clear hb2 K a8 a9 a10 a11 a12 a13
  dsimp only
  have a0 : w2.cell? ⟨B, 0, none⟩ = some (.int .i64 m.kind) := cell_n (HB.out _ H2.out) 0 rfl
  obtain ⟨k1, h1⟩ := hide (m.kind == 1)
  obtain ⟨k3, h3⟩ := hide (m.kind == 3)
  obtain ⟨k2, h2⟩ := hide (m.kind == 2)
  obtain ⟨k4, h4⟩ := hide (m.kind == 4)
  obtain ⟨p, hp⟩ := hide (m.kind == 5)
  obtain ⟨b, hb⟩ := hide (m.kind == 6)
  obtain ⟨i, hi⟩ := hide (m.kind == 7)
  have q1 := h1.out
  have q2 := h2.out
  have q3 := h3.out
  have q4 := h4.out
  have q5 := hp.out
  have q6 := hb.out
  have q7 := hi.out
  have ha : Hid (askB m.kind = (k1 || k3)) := by show _ = _; rw [askB, q1, q3]
  have hr : Hid (repB m.kind = (k2 || k4)) := by show _ = _; rw [repB, q2, q4]
  obtain ⟨va, hc1⟩ := hide (k1 || k3)
  go_upto_region 2 with fail
  try dsimp only
  go_cut [4] from 20 to 27 (fun u wx => u = .bool va ∧ w2 = wx)
  case first =>
    cases k1 with
    | true =>
      go_wp2_with fail
      go_meet
      exact ⟨by rw [← hc1.out]; first | rfl | simp, rfl⟩
    | false =>
      cases k3 with
      | true =>
        go_wp2_with fail
        go_meet
        exact ⟨by rw [← hc1.out]; first | rfl | simp, rfl⟩
      | false =>
        go_wp2_with fail
        go_meet
        exact ⟨by rw [← hc1.out]; first | rfl | simp, rfl⟩
  case rest =>
    obtain ⟨rfl, rfl⟩ := hcut
    obtain ⟨vr, hc2⟩ := hide (k2 || k4)
    go_upto_region 3 with fail
    try dsimp only
    go_cut [5] from 28 to 35 (fun u wx => u = .bool vr ∧ w2 = wx)
    case first =>
      cases k2 with
      | true =>
        go_wp2_with fail
        go_meet
        exact ⟨by rw [← hc2.out]; first | rfl | simp, rfl⟩
      | false =>
        cases k4 with
        | true =>
          go_wp2_with fail
          go_meet
          exact ⟨by rw [← hc2.out]; first | rfl | simp, rfl⟩
        | false =>
          go_wp2_with fail
          go_meet
          exact ⟨by rw [← hc2.out]; first | rfl | simp, rfl⟩
    case rest =>
      obtain ⟨rfl, rfl⟩ := hcut
      rw [hc1.out] at ha
      rw [hc2.out] at hr
      iterate 75 (first | done | exact msgR_head m w2 B ae ax ay az ce cx cy cz F (fun w' h => HB.out w' (H2.out.trans (h.mono H2.out.size))) (fun w' h => HE.out w' (H2.out.trans (h.mono H2.out.size))) (fun w' h => HC.out w' (H2.out.trans (h.mono H2.out.size))) post (fun b w' h0 h2 => have h1 := H2.out.trans (h0.mono H2.out.size); Hp.out b w' h1 h2) va vr p b i z ha hr hp hb hi hz | go_step)
end Go.Proofs.Ytkcllpbbjlbfaaa

namespace Go.Proofs.Ytkcllpbbjlbfaaa
open Go.RowKit Wm Mm Lg
set_option linter.unusedVariables false
set_option linter.unusedSimpArgs false

theorem ref_num (i : Int) (h0 : 0 ≤ i) (h1 : i ≤ 1099511627775) (w : World) :
    Calls Try.prog 17 #[.int .i64 i] w fun e w' => e = .returned (str (putNum i.toNat)) ∧ Below w.heap.size w w' := by
  obtain ⟨n, rfl⟩ : ∃ n : Nat, i = n := ⟨i.toNat, by omega⟩
  exact ref_number_any (by omega) w
theorem ref_ent (x : EntP) (hx : isEntry x.idx x.trm x.knd x.dat = true) (w : World) :
    Calls Try.prog 20 #[vEnt x.idx x.trm x.knd x.dat] w fun e w' => e = .returned (str (putEnt x.idx.toNat x.trm.toNat x.knd.toNat x.dat)) ∧ Below w.heap.size w w' := by
  obtain ⟨i, t, k, d⟩ := x
  obtain ⟨a, b, c, rfl, rfl, rfl, h1, h2, h3, h4⟩ := isEntry_facts hx
  exact ref_entry a b c d w h1 h2 h3 h4
theorem ent_len (x : EntP) (hx : isEntry x.idx x.trm x.knd x.dat = true) : (putEnt x.idx.toNat x.trm.toNat x.knd.toNat x.dat).length ≤ 292 := by
  obtain ⟨i, t, k, d⟩ := x
  obtain ⟨a, b, c, rfl, rfl, rfl, h1, h2, h3, h4⟩ := isEntry_facts hx
  exact putEnt_len a b c d h1 h2 h3 h4
theorem ref_snap (si st : Int) (x y z : Value) (c : Conf) (d : List UInt8) (hx : isSnap si st c d = true) (w : World) (hc : Config3 w x y z c) :
    (Calls Try.prog 19 #[vSnap si st x y z d] w fun e w' => e = .returned (str (putSnap si.toNat st.toNat c d)) ∧ Below w.heap.size w w') ∧ (putSnap si.toNat st.toNat c d).length ≤ 8600 := by
  obtain ⟨a, b, rfl, rfl, h1, h2, h3, h4⟩ := isSnap_facts hx
  exact ⟨ref_snapshot a b x y z c d w hc h1 h2 h3 h4, putSnap_len h1 h2 h3 h4⟩
set_option maxHeartbeats 1000000 in
theorem ref_flag (f : Bool) (w : World) :
    Calls Try.prog 18 #[.bool f] w fun e w' => e = .returned (str (flagB f)) ∧ Below w.heap.size w w' := by
  cases f
  all_goals
    go_enter Try.func18, Try.ntmps18
    go_wp2_with fail
    go_ret
    exact ⟨rfl, Below.refl _ _⟩
set_option maxHeartbeats 4000000 in
set_option maxRecDepth 100000 in
theorem putR_ask {v0 v2 v3 v4 v15 v16 v17 v18 v19 v20 v21 v22 v23 v24 v25 v26 v27 v28 v29 v30 v31 v32 v33 v34 v35 v36 v37 v38 v39 v40 v41 v42 v43 v44 v45 v46 v47 v48 v49 v50 v51 v52 v53 v54 v55 v56 v57 v58 v59 v60 v61 v62 v63 v64 v65 v66 v67 v68 v69 v70 v71 v72 v73 v74 v75 v76 v77 v78 v79 v80 v81 v82 v83 v84 v85 v86 v87 v88 v89 v90 v91 v92 v93 v94 v95 v96 v97 v98 v99 v100 v101 v102 v103 v104 v105 v106 v107 v108 v109 v110 v111 v112 v113 v114 v115 v116 v117 v118 v119 v120 v121 v122 v123 v124 v125 v126 v127 v128 v129 : Value} (m : Msg) (W : World) (B : Nat) (ae ax ay az : Option Addr) (ce cx cy cz : Nat) (G : Nat → Prop)
    (HB : Hid (∀ w', Below W.heap.size W w' → w'.heap[B]? = some (.cells (rowMsg m (.slice ae m.ents.length ce) (.slice ax m.sc.v.length cx) (.slice ay m.sc.n.length cy) (.slice az m.sc.l.length cz)).toArray 29 (0, 0)))) (HE : Hid (∀ w', Below W.heap.size W w' → Ents G w' (.slice ae m.ents.length ce) m.ents)) (HC : Hid (∀ w', Below W.heap.size W w' → Config3 w' (.slice ax m.sc.v.length cx) (.slice ay m.sc.n.length cy) (.slice az m.sc.l.length cz) m.sc))
    (post : Ending → World → Prop) (hm : isMsg m = true) (Hp : Hid (∀ w', Below W.heap.size W w' → post (.returned (.tuple #[str (putMsg m), .int .i64 0])) w'))
    (p1 p2 p3 p4 p5 p6 p7 p8 p9 p10 : List UInt8) (hl : Hid (p1.length ≤ 9 ∧ p2.length ≤ 9 ∧ p3.length ≤ 9 ∧ p4.length ≤ 9 ∧ p5.length ≤ 9 ∧ p6.length ≤ 9 ∧ p7.length ≤ 9 ∧ p8.length ≤ 9 ∧ p9.length ≤ 9 ∧ p10.length ≤ 9))
    (h1 : Hid (putNum m.kind.toNat = p1)) (h2 : Hid (putNum m.frm.toNat = p2)) (h3 : Hid (putNum m.dst.toNat = p3)) (h4 : Hid (putNum m.term.toNat = p4)) (h5 : Hid (putNum m.index.toNat = p5)) (h6 : Hid (putNum m.logTerm.toNat = p6)) (h7 : Hid (putNum m.commit.toNat = p7)) (h8 : Hid (putNum m.hint.toNat = p8)) (h9 : Hid (putNum m.ctx.toNat = p9)) (h10 : Hid (flagB m.rej = p10)) (hk : m.kind = 1 ∨ m.kind = 3) :
    Code.wp Try.prog ((Try.f6.body.bind (seqAt 14)).getD .skip) (bodyPost Try.prog Try.f6 post) ⟨#[v0, .pointer (some ⟨B, 0, none⟩), v2, v3, v4, str p1, str p2, str p3, str p4, str p5, str p6, str p7, str p8, str p9, str p10, v15, v16, v17, v18, v19, v20, v21, v22, v23, v24, v25, v26, v27, v28, v29, v30, v31, v32, v33, v34, v35, v36, v37, v38, v39, v40, v41, v42, v43, v44, v45, v46, v47, v48, v49, v50, v51, v52, v53, v54, v55, v56, v57, v58, v59, v60, v61, v62, v63, v64, v65, v66, v67, v68, v69, v70, v71, v72, v73, v74, v75, v76, v77, v78, v79, v80, v81, v82, v83, v84, v85, v86, v87, v88, v89, v90, v91, v92, v93, v94, v95, v96, v97, v98, v99, v100, v101, v102, v103, v104, v105, v106, v107, v108, v109, v110, v111, v112, v113, v114, v115, v116, v117, v118, v119, v120, v121, v122, v123, v124, v125, v126, v127, v128, v129], []⟩ W := by
  conv => arg 2; whnf
  have H0 : Hid (Below W.heap.size W W) := Below.refl _ _
  obtain ⟨g1, g2, g3, g4, g5, g6, g7, g8, g9, g10, g11, g12, g13, g14, g15, g16, g17, g18⟩ := isMsg_ranges hm
  obtain ⟨l1, l2, l3, l4, l5, l6, l7, l8, l9, l10⟩ := hl.out
  have ht : putTail m = p5 ++ p6 := by rw [putTail, if_pos hk, h5.out, h6.out]
  have Hq : Hid (post (.returned (.tuple #[str (p1 ++ (p2 ++ (p3 ++ (p4 ++ (p5 ++ (p6)))))), .int .i64 0])) W) := by
    show post _ _
    have h := Hp.out W H0.out
    rw [putMsg, ht, h1.out, h2.out, h3.out, h4.out] at h
    simpa only [List.append_assoc] using h
  have a0 : W.cell? ⟨B, 0, none⟩ = some (.int .i64 m.kind) := cell_n (HB.out _ H0.out) 0 rfl
  have s0 : p1.length + p2.length ≤ 9223372036854775807 := by omega
  have s1 : p1.length + p2.length + p3.length ≤ 9223372036854775807 := by omega
  have s2 : p1.length + p2.length + p3.length + p4.length ≤ 9223372036854775807 := by omega
  have s3 : p1.length + p2.length + p3.length + p4.length + p5.length ≤ 9223372036854775807 := by omega
  have s4 : p1.length + p2.length + p3.length + p4.length + p5.length + p6.length ≤ 9223372036854775807 := by omega
  clear g1 g2 g3 g4 g5 g6 g7 g8 g9 g10 g11 g12 g13 g14 g15 g16 g17 g18 l1 l2 l3 l4 l5 l6 l7 l8 l9 l10
  rcases hk with hk | hk
  · have t1 : (m.kind == 1) = true := by rw [hk]; rfl
    have t2 : (m.kind == 2) = false := beq_eq_false_iff_ne.2 (by omega)
    have t3 : (m.kind == 3) = false := beq_eq_false_iff_ne.2 (by omega)
    have t4 : (m.kind == 4) = false := beq_eq_false_iff_ne.2 (by omega)
    have t6 : (m.kind == 6) = false := beq_eq_false_iff_ne.2 (by omega)
    have t7 : (m.kind == 7) = false := beq_eq_false_iff_ne.2 (by omega)
    clear hk ht
    go_wp2_with fail
    first | exact Hq.out | (go_ret2; exact Hq.out) | (go_ret; exact Hq.out)
  · have t1 : (m.kind == 1) = false := beq_eq_false_iff_ne.2 (by omega)
    have t2 : (m.kind == 2) = false := beq_eq_false_iff_ne.2 (by omega)
    have t3 : (m.kind == 3) = true := by rw [hk]; rfl
    have t4 : (m.kind == 4) = false := beq_eq_false_iff_ne.2 (by omega)
    have t6 : (m.kind == 6) = false := beq_eq_false_iff_ne.2 (by omega)
    have t7 : (m.kind == 7) = false := beq_eq_false_iff_ne.2 (by omega)
    clear hk ht
    go_wp2_with fail
    first | exact Hq.out | (go_ret2; exact Hq.out) | (go_ret; exact Hq.out)
set_option maxHeartbeats 4000000 in
set_option maxRecDepth 100000 in
theorem putR_rep {v0 v2 v3 v4 v15 v16 v17 v18 v19 v20 v21 v22 v23 v24 v25 v26 v27 v28 v29 v30 v31 v32 v33 v34 v35 v36 v37 v38 v39 v40 v41 v42 v43 v44 v45 v46 v47 v48 v49 v50 v51 v52 v53 v54 v55 v56 v57 v58 v59 v60 v61 v62 v63 v64 v65 v66 v67 v68 v69 v70 v71 v72 v73 v74 v75 v76 v77 v78 v79 v80 v81 v82 v83 v84 v85 v86 v87 v88 v89 v90 v91 v92 v93 v94 v95 v96 v97 v98 v99 v100 v101 v102 v103 v104 v105 v106 v107 v108 v109 v110 v111 v112 v113 v114 v115 v116 v117 v118 v119 v120 v121 v122 v123 v124 v125 v126 v127 v128 v129 : Value} (m : Msg) (W : World) (B : Nat) (ae ax ay az : Option Addr) (ce cx cy cz : Nat) (G : Nat → Prop)
    (HB : Hid (∀ w', Below W.heap.size W w' → w'.heap[B]? = some (.cells (rowMsg m (.slice ae m.ents.length ce) (.slice ax m.sc.v.length cx) (.slice ay m.sc.n.length cy) (.slice az m.sc.l.length cz)).toArray 29 (0, 0)))) (HE : Hid (∀ w', Below W.heap.size W w' → Ents G w' (.slice ae m.ents.length ce) m.ents)) (HC : Hid (∀ w', Below W.heap.size W w' → Config3 w' (.slice ax m.sc.v.length cx) (.slice ay m.sc.n.length cy) (.slice az m.sc.l.length cz) m.sc))
    (post : Ending → World → Prop) (hm : isMsg m = true) (Hp : Hid (∀ w', Below W.heap.size W w' → post (.returned (.tuple #[str (putMsg m), .int .i64 0])) w'))
    (p1 p2 p3 p4 p5 p6 p7 p8 p9 p10 : List UInt8) (hl : Hid (p1.length ≤ 9 ∧ p2.length ≤ 9 ∧ p3.length ≤ 9 ∧ p4.length ≤ 9 ∧ p5.length ≤ 9 ∧ p6.length ≤ 9 ∧ p7.length ≤ 9 ∧ p8.length ≤ 9 ∧ p9.length ≤ 9 ∧ p10.length ≤ 9))
    (h1 : Hid (putNum m.kind.toNat = p1)) (h2 : Hid (putNum m.frm.toNat = p2)) (h3 : Hid (putNum m.dst.toNat = p3)) (h4 : Hid (putNum m.term.toNat = p4)) (h5 : Hid (putNum m.index.toNat = p5)) (h6 : Hid (putNum m.logTerm.toNat = p6)) (h7 : Hid (putNum m.commit.toNat = p7)) (h8 : Hid (putNum m.hint.toNat = p8)) (h9 : Hid (putNum m.ctx.toNat = p9)) (h10 : Hid (flagB m.rej = p10)) (hk : m.kind = 2 ∨ m.kind = 4) :
    Code.wp Try.prog ((Try.f6.body.bind (seqAt 14)).getD .skip) (bodyPost Try.prog Try.f6 post) ⟨#[v0, .pointer (some ⟨B, 0, none⟩), v2, v3, v4, str p1, str p2, str p3, str p4, str p5, str p6, str p7, str p8, str p9, str p10, v15, v16, v17, v18, v19, v20, v21, v22, v23, v24, v25, v26, v27, v28, v29, v30, v31, v32, v33, v34, v35, v36, v37, v38, v39, v40, v41, v42, v43, v44, v45, v46, v47, v48, v49, v50, v51, v52, v53, v54, v55, v56, v57, v58, v59, v60, v61, v62, v63, v64, v65, v66, v67, v68, v69, v70, v71, v72, v73, v74, v75, v76, v77, v78, v79, v80, v81, v82, v83, v84, v85, v86, v87, v88, v89, v90, v91, v92, v93, v94, v95, v96, v97, v98, v99, v100, v101, v102, v103, v104, v105, v106, v107, v108, v109, v110, v111, v112, v113, v114, v115, v116, v117, v118, v119, v120, v121, v122, v123, v124, v125, v126, v127, v128, v129], []⟩ W := by
  conv => arg 2; whnf
  have H0 : Hid (Below W.heap.size W W) := Below.refl _ _
  obtain ⟨g1, g2, g3, g4, g5, g6, g7, g8, g9, g10, g11, g12, g13, g14, g15, g16, g17, g18⟩ := isMsg_ranges hm
  obtain ⟨l1, l2, l3, l4, l5, l6, l7, l8, l9, l10⟩ := hl.out
  have ht : putTail m = p10 := by rw [putTail, if_neg (by omega), if_pos hk, h10.out]
  have Hq : Hid (post (.returned (.tuple #[str (p1 ++ (p2 ++ (p3 ++ (p4 ++ (p10))))), .int .i64 0])) W) := by
    show post _ _
    have h := Hp.out W H0.out
    rw [putMsg, ht, h1.out, h2.out, h3.out, h4.out] at h
    simpa only [List.append_assoc] using h
  have a0 : W.cell? ⟨B, 0, none⟩ = some (.int .i64 m.kind) := cell_n (HB.out _ H0.out) 0 rfl
  have s0 : p1.length + p2.length ≤ 9223372036854775807 := by omega
  have s1 : p1.length + p2.length + p3.length ≤ 9223372036854775807 := by omega
  have s2 : p1.length + p2.length + p3.length + p4.length ≤ 9223372036854775807 := by omega
  have s3 : p1.length + p2.length + p3.length + p4.length + p10.length ≤ 9223372036854775807 := by omega
  clear g1 g2 g3 g4 g5 g6 g7 g8 g9 g10 g11 g12 g13 g14 g15 g16 g17 g18 l1 l2 l3 l4 l5 l6 l7 l8 l9 l10
  rcases hk with hk | hk
  · have t1 : (m.kind == 1) = false := beq_eq_false_iff_ne.2 (by omega)
    have t2 : (m.kind == 2) = true := by rw [hk]; rfl
    have t3 : (m.kind == 3) = false := beq_eq_false_iff_ne.2 (by omega)
    have t4 : (m.kind == 4) = false := beq_eq_false_iff_ne.2 (by omega)
    have t6 : (m.kind == 6) = false := beq_eq_false_iff_ne.2 (by omega)
    have t7 : (m.kind == 7) = false := beq_eq_false_iff_ne.2 (by omega)
    clear hk ht
    go_wp2_with fail
    first | exact Hq.out | (go_ret2; exact Hq.out) | (go_ret; exact Hq.out)
  · have t1 : (m.kind == 1) = false := beq_eq_false_iff_ne.2 (by omega)
    have t2 : (m.kind == 2) = false := beq_eq_false_iff_ne.2 (by omega)
    have t3 : (m.kind == 3) = false := beq_eq_false_iff_ne.2 (by omega)
    have t4 : (m.kind == 4) = true := by rw [hk]; rfl
    have t6 : (m.kind == 6) = false := beq_eq_false_iff_ne.2 (by omega)
    have t7 : (m.kind == 7) = false := beq_eq_false_iff_ne.2 (by omega)
    clear hk ht
    go_wp2_with fail
    first | exact Hq.out | (go_ret2; exact Hq.out) | (go_ret; exact Hq.out)
set_option maxHeartbeats 4000000 in
set_option maxRecDepth 100000 in
theorem putR_back {v0 v2 v3 v4 v15 v16 v17 v18 v19 v20 v21 v22 v23 v24 v25 v26 v27 v28 v29 v30 v31 v32 v33 v34 v35 v36 v37 v38 v39 v40 v41 v42 v43 v44 v45 v46 v47 v48 v49 v50 v51 v52 v53 v54 v55 v56 v57 v58 v59 v60 v61 v62 v63 v64 v65 v66 v67 v68 v69 v70 v71 v72 v73 v74 v75 v76 v77 v78 v79 v80 v81 v82 v83 v84 v85 v86 v87 v88 v89 v90 v91 v92 v93 v94 v95 v96 v97 v98 v99 v100 v101 v102 v103 v104 v105 v106 v107 v108 v109 v110 v111 v112 v113 v114 v115 v116 v117 v118 v119 v120 v121 v122 v123 v124 v125 v126 v127 v128 v129 : Value} (m : Msg) (W : World) (B : Nat) (ae ax ay az : Option Addr) (ce cx cy cz : Nat) (G : Nat → Prop)
    (HB : Hid (∀ w', Below W.heap.size W w' → w'.heap[B]? = some (.cells (rowMsg m (.slice ae m.ents.length ce) (.slice ax m.sc.v.length cx) (.slice ay m.sc.n.length cy) (.slice az m.sc.l.length cz)).toArray 29 (0, 0)))) (HE : Hid (∀ w', Below W.heap.size W w' → Ents G w' (.slice ae m.ents.length ce) m.ents)) (HC : Hid (∀ w', Below W.heap.size W w' → Config3 w' (.slice ax m.sc.v.length cx) (.slice ay m.sc.n.length cy) (.slice az m.sc.l.length cz) m.sc))
    (post : Ending → World → Prop) (hm : isMsg m = true) (Hp : Hid (∀ w', Below W.heap.size W w' → post (.returned (.tuple #[str (putMsg m), .int .i64 0])) w'))
    (p1 p2 p3 p4 p5 p6 p7 p8 p9 p10 : List UInt8) (hl : Hid (p1.length ≤ 9 ∧ p2.length ≤ 9 ∧ p3.length ≤ 9 ∧ p4.length ≤ 9 ∧ p5.length ≤ 9 ∧ p6.length ≤ 9 ∧ p7.length ≤ 9 ∧ p8.length ≤ 9 ∧ p9.length ≤ 9 ∧ p10.length ≤ 9))
    (h1 : Hid (putNum m.kind.toNat = p1)) (h2 : Hid (putNum m.frm.toNat = p2)) (h3 : Hid (putNum m.dst.toNat = p3)) (h4 : Hid (putNum m.term.toNat = p4)) (h5 : Hid (putNum m.index.toNat = p5)) (h6 : Hid (putNum m.logTerm.toNat = p6)) (h7 : Hid (putNum m.commit.toNat = p7)) (h8 : Hid (putNum m.hint.toNat = p8)) (h9 : Hid (putNum m.ctx.toNat = p9)) (h10 : Hid (flagB m.rej = p10)) (hk : m.kind = 6) :
    Code.wp Try.prog ((Try.f6.body.bind (seqAt 14)).getD .skip) (bodyPost Try.prog Try.f6 post) ⟨#[v0, .pointer (some ⟨B, 0, none⟩), v2, v3, v4, str p1, str p2, str p3, str p4, str p5, str p6, str p7, str p8, str p9, str p10, v15, v16, v17, v18, v19, v20, v21, v22, v23, v24, v25, v26, v27, v28, v29, v30, v31, v32, v33, v34, v35, v36, v37, v38, v39, v40, v41, v42, v43, v44, v45, v46, v47, v48, v49, v50, v51, v52, v53, v54, v55, v56, v57, v58, v59, v60, v61, v62, v63, v64, v65, v66, v67, v68, v69, v70, v71, v72, v73, v74, v75, v76, v77, v78, v79, v80, v81, v82, v83, v84, v85, v86, v87, v88, v89, v90, v91, v92, v93, v94, v95, v96, v97, v98, v99, v100, v101, v102, v103, v104, v105, v106, v107, v108, v109, v110, v111, v112, v113, v114, v115, v116, v117, v118, v119, v120, v121, v122, v123, v124, v125, v126, v127, v128, v129], []⟩ W := by
  conv => arg 2; whnf
  have H0 : Hid (Below W.heap.size W W) := Below.refl _ _
  obtain ⟨g1, g2, g3, g4, g5, g6, g7, g8, g9, g10, g11, g12, g13, g14, g15, g16, g17, g18⟩ := isMsg_ranges hm
  obtain ⟨l1, l2, l3, l4, l5, l6, l7, l8, l9, l10⟩ := hl.out
  have ht : putTail m = p5 ++ (p10 ++ (p8 ++ p9)) := by rw [putTail, if_neg (by omega), if_neg (by omega), if_pos hk, h5.out, h10.out, h8.out, h9.out]
  have Hq : Hid (post (.returned (.tuple #[str (p1 ++ (p2 ++ (p3 ++ (p4 ++ (p5 ++ (p10 ++ (p8 ++ (p9)))))))), .int .i64 0])) W) := by
    show post _ _
    have h := Hp.out W H0.out
    rw [putMsg, ht, h1.out, h2.out, h3.out, h4.out] at h
    simpa only [List.append_assoc] using h
  have a0 : W.cell? ⟨B, 0, none⟩ = some (.int .i64 m.kind) := cell_n (HB.out _ H0.out) 0 rfl
  have s0 : p1.length + p2.length ≤ 9223372036854775807 := by omega
  have s1 : p1.length + p2.length + p3.length ≤ 9223372036854775807 := by omega
  have s2 : p1.length + p2.length + p3.length + p4.length ≤ 9223372036854775807 := by omega
  have s3 : p1.length + p2.length + p3.length + p4.length + p5.length ≤ 9223372036854775807 := by omega
  have s4 : p1.length + p2.length + p3.length + p4.length + p5.length + p10.length ≤ 9223372036854775807 := by omega
  have s5 : p1.length + p2.length + p3.length + p4.length + p5.length + p10.length + p8.length ≤ 9223372036854775807 := by omega
  have s6 : p1.length + p2.length + p3.length + p4.length + p5.length + p10.length + p8.length + p9.length ≤ 9223372036854775807 := by omega
  clear g1 g2 g3 g4 g5 g6 g7 g8 g9 g10 g11 g12 g13 g14 g15 g16 g17 g18 l1 l2 l3 l4 l5 l6 l7 l8 l9 l10
  have t1 : (m.kind == 1) = false := beq_eq_false_iff_ne.2 (by omega)
  have t2 : (m.kind == 2) = false := beq_eq_false_iff_ne.2 (by omega)
  have t3 : (m.kind == 3) = false := beq_eq_false_iff_ne.2 (by omega)
  have t4 : (m.kind == 4) = false := beq_eq_false_iff_ne.2 (by omega)
  have t6 : (m.kind == 6) = true := by rw [hk]; rfl
  have t7 : (m.kind == 7) = false := beq_eq_false_iff_ne.2 (by omega)
  clear hk ht
  go_wp2_with fail
  first | exact Hq.out | (go_ret2; exact Hq.out) | (go_ret; exact Hq.out)
set_option maxHeartbeats 4000000 in
set_option maxRecDepth 100000 in
theorem putR_inst {v0 v2 v3 v4 v15 v16 v17 v18 v19 v20 v21 v22 v23 v24 v25 v26 v27 v28 v29 v30 v31 v32 v33 v34 v35 v36 v37 v38 v39 v40 v41 v42 v43 v44 v45 v46 v47 v48 v49 v50 v51 v52 v53 v54 v55 v56 v57 v58 v59 v60 v61 v62 v63 v64 v65 v66 v67 v68 v69 v70 v71 v72 v73 v74 v75 v76 v77 v78 v79 v80 v81 v82 v83 v84 v85 v86 v87 v88 v89 v90 v91 v92 v93 v94 v95 v96 v97 v98 v99 v100 v101 v102 v103 v104 v105 v106 v107 v108 v109 v110 v111 v112 v113 v114 v115 v116 v117 v118 v119 v120 v121 v122 v123 v124 v125 v126 v127 v128 v129 : Value} (m : Msg) (W : World) (B : Nat) (ae ax ay az : Option Addr) (ce cx cy cz : Nat) (G : Nat → Prop)
    (HB : Hid (∀ w', Below W.heap.size W w' → w'.heap[B]? = some (.cells (rowMsg m (.slice ae m.ents.length ce) (.slice ax m.sc.v.length cx) (.slice ay m.sc.n.length cy) (.slice az m.sc.l.length cz)).toArray 29 (0, 0)))) (HE : Hid (∀ w', Below W.heap.size W w' → Ents G w' (.slice ae m.ents.length ce) m.ents)) (HC : Hid (∀ w', Below W.heap.size W w' → Config3 w' (.slice ax m.sc.v.length cx) (.slice ay m.sc.n.length cy) (.slice az m.sc.l.length cz) m.sc))
    (post : Ending → World → Prop) (hm : isMsg m = true) (Hp : Hid (∀ w', Below W.heap.size W w' → post (.returned (.tuple #[str (putMsg m), .int .i64 0])) w'))
    (p1 p2 p3 p4 p5 p6 p7 p8 p9 p10 : List UInt8) (hl : Hid (p1.length ≤ 9 ∧ p2.length ≤ 9 ∧ p3.length ≤ 9 ∧ p4.length ≤ 9 ∧ p5.length ≤ 9 ∧ p6.length ≤ 9 ∧ p7.length ≤ 9 ∧ p8.length ≤ 9 ∧ p9.length ≤ 9 ∧ p10.length ≤ 9))
    (h1 : Hid (putNum m.kind.toNat = p1)) (h2 : Hid (putNum m.frm.toNat = p2)) (h3 : Hid (putNum m.dst.toNat = p3)) (h4 : Hid (putNum m.term.toNat = p4)) (h5 : Hid (putNum m.index.toNat = p5)) (h6 : Hid (putNum m.logTerm.toNat = p6)) (h7 : Hid (putNum m.commit.toNat = p7)) (h8 : Hid (putNum m.hint.toNat = p8)) (h9 : Hid (putNum m.ctx.toNat = p9)) (h10 : Hid (flagB m.rej = p10)) (hk : m.kind = 7) :
    Code.wp Try.prog ((Try.f6.body.bind (seqAt 14)).getD .skip) (bodyPost Try.prog Try.f6 post) ⟨#[v0, .pointer (some ⟨B, 0, none⟩), v2, v3, v4, str p1, str p2, str p3, str p4, str p5, str p6, str p7, str p8, str p9, str p10, v15, v16, v17, v18, v19, v20, v21, v22, v23, v24, v25, v26, v27, v28, v29, v30, v31, v32, v33, v34, v35, v36, v37, v38, v39, v40, v41, v42, v43, v44, v45, v46, v47, v48, v49, v50, v51, v52, v53, v54, v55, v56, v57, v58, v59, v60, v61, v62, v63, v64, v65, v66, v67, v68, v69, v70, v71, v72, v73, v74, v75, v76, v77, v78, v79, v80, v81, v82, v83, v84, v85, v86, v87, v88, v89, v90, v91, v92, v93, v94, v95, v96, v97, v98, v99, v100, v101, v102, v103, v104, v105, v106, v107, v108, v109, v110, v111, v112, v113, v114, v115, v116, v117, v118, v119, v120, v121, v122, v123, v124, v125, v126, v127, v128, v129], []⟩ W := by
  conv => arg 2; whnf
  have H0 : Hid (Below W.heap.size W W) := Below.refl _ _
  obtain ⟨g1, g2, g3, g4, g5, g6, g7, g8, g9, g10, g11, g12, g13, g14, g15, g16, g17, g18⟩ := isMsg_ranges hm
  obtain ⟨l1, l2, l3, l4, l5, l6, l7, l8, l9, l10⟩ := hl.out
  obtain ⟨q, hq⟩ := hide (putSnap m.si.toNat m.st.toNat m.sc m.sd)
  have ht : putTail m = p9 ++ q := by rw [putTail, if_neg (by omega), if_neg (by omega), if_neg (by omega), if_pos hk, h9.out, hq.out]
  have K := ref_snap m.si m.st (.slice ax m.sc.v.length cx) (.slice ay m.sc.n.length cy) (.slice az m.sc.l.length cz) m.sc m.sd (isMsg_snap hm hk) W (HC.out _ H0.out)
  rw [hq.out] at K
  have lq := K.2
  have K1 := Lib.hid K.1
  have Hpp : Hid (∀ w', Below W.heap.size W w' → post (.returned (.tuple #[str (p1 ++ (p2 ++ (p3 ++ (p4 ++ (p9 ++ (q)))))), .int .i64 0])) w') := by
    show ∀ w', _ → _
    intro w' hw
    have h := Hp.out w' hw
    rw [putMsg, ht, h1.out, h2.out, h3.out, h4.out] at h
    simpa only [List.append_assoc] using h
  have a0 : W.cell? ⟨B, 0, none⟩ = some (.int .i64 m.kind) := cell_n (HB.out _ H0.out) 0 rfl
  have a8 : W.cell? ⟨B, 8, none⟩ = some (.int .i64 m.si) := cell_n (HB.out _ H0.out) 8 rfl
  have a9 : W.cell? ⟨B, 9, none⟩ = some (.int .i64 m.st) := cell_n (HB.out _ H0.out) 9 rfl
  have a10 : W.cell? ⟨B, 10, none⟩ = some (.slice ax m.sc.v.length cx) := cell_n (HB.out _ H0.out) 10 rfl
  have a11 : W.cell? ⟨B, 11, none⟩ = some (.slice ay m.sc.n.length cy) := cell_n (HB.out _ H0.out) 11 rfl
  have a12 : W.cell? ⟨B, 12, none⟩ = some (.slice az m.sc.l.length cz) := cell_n (HB.out _ H0.out) 12 rfl
  have a13 : W.cell? ⟨B, 13, none⟩ = some (str m.sd) := cell_n (HB.out _ H0.out) 13 rfl
  have s0 : p1.length + p2.length ≤ 9223372036854775807 := by omega
  have s1 : p1.length + p2.length + p3.length ≤ 9223372036854775807 := by omega
  have s2 : p1.length + p2.length + p3.length + p4.length ≤ 9223372036854775807 := by omega
  have s3 : p1.length + p2.length + p3.length + p4.length + p9.length ≤ 9223372036854775807 := by omega
  have s4 : p1.length + p2.length + p3.length + p4.length + p9.length + q.length ≤ 9223372036854775807 := by omega
  have t1 : (m.kind == 1) = false := beq_eq_false_iff_ne.2 (by omega)
  have t2 : (m.kind == 2) = false := beq_eq_false_iff_ne.2 (by omega)
  have t3 : (m.kind == 3) = false := beq_eq_false_iff_ne.2 (by omega)
  have t4 : (m.kind == 4) = false := beq_eq_false_iff_ne.2 (by omega)
  have t6 : (m.kind == 6) = false := beq_eq_false_iff_ne.2 (by omega)
  have t7 : (m.kind == 7) = true := by rw [hk]; rfl
  clear g1 g2 g3 g4 g5 g6 g7 g8 g9 g10 g11 g12 g13 g14 g15 g16 g17 g18 l1 l2 l3 l4 l5 l6 l7 l8 l9 l10 lq K hk ht
  go_wp2_with fail
  refine K1.out.mono ?_
  rintro e w2 ⟨rfl, hb2⟩
  have Hq := Lib.hid (Hpp.out _ hb2)
  clear hb2 K1 a0 a8 a9 a10 a11 a12 a13
  dsimp only
  go_wp2_with fail
  first | exact Hq.out | (go_ret2; exact Hq.out) | (go_ret; exact Hq.out)
set_option maxHeartbeats 4000000 in
set_option maxRecDepth 100000 in
theorem putR_app {v0 v2 v3 v4 v15 v16 v17 v18 v19 v20 v21 v22 v23 v24 v25 v26 v27 v28 v29 v30 v31 v32 v33 v34 v35 v36 v37 v38 v39 v40 v41 v42 v43 v44 v45 v46 v47 v48 v49 v50 v51 v52 v53 v54 v55 v56 v57 v58 v59 v60 v61 v62 v63 v64 v65 v66 v67 v68 v69 v70 v71 v72 v73 v74 v75 v76 v77 v78 v79 v80 v81 v82 v83 v84 v85 v86 v87 v88 v89 v90 v91 v92 v93 v94 v95 v96 v97 v98 v99 v100 v101 v102 v103 v104 v105 v106 v107 v108 v109 v110 v111 v112 v113 v114 v115 v116 v117 v118 v119 v120 v121 v122 v123 v124 v125 v126 v127 v128 v129 : Value} (m : Msg) (W : World) (B : Nat) (ae ax ay az : Option Addr) (ce cx cy cz : Nat) (G : Nat → Prop)
    (HB : Hid (∀ w', Below W.heap.size W w' → w'.heap[B]? = some (.cells (rowMsg m (.slice ae m.ents.length ce) (.slice ax m.sc.v.length cx) (.slice ay m.sc.n.length cy) (.slice az m.sc.l.length cz)).toArray 29 (0, 0)))) (HE : Hid (∀ w', Below W.heap.size W w' → Ents G w' (.slice ae m.ents.length ce) m.ents)) (HC : Hid (∀ w', Below W.heap.size W w' → Config3 w' (.slice ax m.sc.v.length cx) (.slice ay m.sc.n.length cy) (.slice az m.sc.l.length cz) m.sc))
    (post : Ending → World → Prop) (hm : isMsg m = true) (Hp : Hid (∀ w', Below W.heap.size W w' → post (.returned (.tuple #[str (putMsg m), .int .i64 0])) w'))
    (p1 p2 p3 p4 p5 p6 p7 p8 p9 p10 : List UInt8) (hl : Hid (p1.length ≤ 9 ∧ p2.length ≤ 9 ∧ p3.length ≤ 9 ∧ p4.length ≤ 9 ∧ p5.length ≤ 9 ∧ p6.length ≤ 9 ∧ p7.length ≤ 9 ∧ p8.length ≤ 9 ∧ p9.length ≤ 9 ∧ p10.length ≤ 9))
    (h1 : Hid (putNum m.kind.toNat = p1)) (h2 : Hid (putNum m.frm.toNat = p2)) (h3 : Hid (putNum m.dst.toNat = p3)) (h4 : Hid (putNum m.term.toNat = p4)) (h5 : Hid (putNum m.index.toNat = p5)) (h6 : Hid (putNum m.logTerm.toNat = p6)) (h7 : Hid (putNum m.commit.toNat = p7)) (h8 : Hid (putNum m.hint.toNat = p8)) (h9 : Hid (putNum m.ctx.toNat = p9)) (h10 : Hid (flagB m.rej = p10)) (hk : m.kind = 5) :
    Code.wp Try.prog ((Try.f6.body.bind (seqAt 14)).getD .skip) (bodyPost Try.prog Try.f6 post) ⟨#[v0, .pointer (some ⟨B, 0, none⟩), v2, v3, v4, str p1, str p2, str p3, str p4, str p5, str p6, str p7, str p8, str p9, str p10, v15, v16, v17, v18, v19, v20, v21, v22, v23, v24, v25, v26, v27, v28, v29, v30, v31, v32, v33, v34, v35, v36, v37, v38, v39, v40, v41, v42, v43, v44, v45, v46, v47, v48, v49, v50, v51, v52, v53, v54, v55, v56, v57, v58, v59, v60, v61, v62, v63, v64, v65, v66, v67, v68, v69, v70, v71, v72, v73, v74, v75, v76, v77, v78, v79, v80, v81, v82, v83, v84, v85, v86, v87, v88, v89, v90, v91, v92, v93, v94, v95, v96, v97, v98, v99, v100, v101, v102, v103, v104, v105, v106, v107, v108, v109, v110, v111, v112, v113, v114, v115, v116, v117, v118, v119, v120, v121, v122, v123, v124, v125, v126, v127, v128, v129], []⟩ W := by
  conv => arg 2; whnf
  have H0 : Hid (Below W.heap.size W W) := Below.refl _ _
  obtain ⟨g1, g2, g3, g4, g5, g6, g7, g8, g9, g10, g11, g12, g13, g14, g15, g16, g17, g18⟩ := isMsg_ranges hm
  obtain ⟨l1, l2, l3, l4, l5, l6, l7, l8, l9, l10⟩ := hl.out
  obtain ⟨q, hq⟩ := hide (putNum m.ents.length)
  obtain ⟨hn8, hall⟩ := isMsg_ents hm hk
  have lq : q.length ≤ 9 := by rw [← hq.out]; exact putNum_len10 (by omega)
  have ht : putTail m = p5 ++ (p6 ++ (p7 ++ (p9 ++ (q ++ putEnts m.ents)))) := by rw [putTail, if_neg (by omega), if_neg (by omega), if_neg (by omega), if_neg (by omega), h5.out, h6.out, h7.out, h9.out, hq.out]
  have K := ref_number_any (n := m.ents.length) (by omega) W
  rw [hq.out] at K
  have K1 := Lib.hid K
  have Hall := Lib.hid hall
  have Hpp : Hid (∀ w', Below W.heap.size W w' → post (.returned (.tuple #[str ((p1 ++ (p2 ++ (p3 ++ (p4 ++ (p5 ++ (p6 ++ (p7 ++ (p9 ++ (q))))))))) ++ putEnts m.ents), .int .i64 0])) w') := by
    show ∀ w', _ → _
    intro w' hw
    have h := Hp.out w' hw
    rw [putMsg, ht, h1.out, h2.out, h3.out, h4.out] at h
    simpa only [List.append_assoc] using h
  have a0 : W.cell? ⟨B, 0, none⟩ = some (.int .i64 m.kind) := cell_n (HB.out _ H0.out) 0 rfl
  have a7 : W.cell? ⟨B, 7, none⟩ = some (.slice ae m.ents.length ce) := cell_n (HB.out _ H0.out) 7 rfl
  have s0 : p1.length + p2.length ≤ 9223372036854775807 := by omega
  have s1 : p1.length + p2.length + p3.length ≤ 9223372036854775807 := by omega
  have s2 : p1.length + p2.length + p3.length + p4.length ≤ 9223372036854775807 := by omega
  have s3 : p1.length + p2.length + p3.length + p4.length + p5.length ≤ 9223372036854775807 := by omega
  have s4 : p1.length + p2.length + p3.length + p4.length + p5.length + p6.length ≤ 9223372036854775807 := by omega
  have s5 : p1.length + p2.length + p3.length + p4.length + p5.length + p6.length + p7.length ≤ 9223372036854775807 := by omega
  have s6 : p1.length + p2.length + p3.length + p4.length + p5.length + p6.length + p7.length + p9.length ≤ 9223372036854775807 := by omega
  have s7 : p1.length + p2.length + p3.length + p4.length + p5.length + p6.length + p7.length + p9.length + q.length ≤ 9223372036854775807 := by omega
  have t1 : (m.kind == 1) = false := beq_eq_false_iff_ne.2 (by omega)
  have t2 : (m.kind == 2) = false := beq_eq_false_iff_ne.2 (by omega)
  have t3 : (m.kind == 3) = false := beq_eq_false_iff_ne.2 (by omega)
  have t4 : (m.kind == 4) = false := beq_eq_false_iff_ne.2 (by omega)
  have t6 : (m.kind == 6) = false := beq_eq_false_iff_ne.2 (by omega)
  have t7 : (m.kind == 7) = false := beq_eq_false_iff_ne.2 (by omega)
  have HSl : Hid ((p1 ++ (p2 ++ (p3 ++ (p4 ++ (p5 ++ (p6 ++ (p7 ++ (p9 ++ (q))))))))).length ≤ 81) := by show _ ≤ _; simp only [List.length_append]; omega
  clear g1 g2 g3 g4 g5 g6 g7 g8 g9 g10 g11 g12 g13 g14 g15 g16 g17 g18 l1 l2 l3 l4 l5 l6 l7 l8 l9 l10 lq K hk ht hall
  go_wp2_with fail
  refine K1.out.mono ?_
  rintro e w2 ⟨rfl, hb2⟩
  have H2 : Hid (Below W.heap.size W w2) := hb2
  clear hb2 K1 a0 a7 t1 t2 t3 t4 t6 t7
  dsimp only
  go_upto_region 29 with fail
  obtain ⟨S, hS⟩ := hide (p1 ++ (p2 ++ (p3 ++ (p4 ++ (p5 ++ (p6 ++ (p7 ++ (p9 ++ (q)))))))))
  rw [hS.out] at Hpp HSl
  rw [hS.out]
  clear s0 s1 s2 s3 s4 s5 s6 s7
  go_wp2_with fail
  go_loopw [15, 18] (fun c15 c18 wr => ∃ k : Nat, c18 = .int .i64 (k : Int) ∧ c15 = str (S ++ putEnts (m.ents.take k)) ∧ k ≤ m.ents.length ∧ Hid ((putEnts (m.ents.take k)).length ≤ 292 * k) ∧ Hid (Below W.heap.size W wr)) (fun _ i _ => m.ents.length - (intOf i).toNat)
  case atStart => exact ⟨0, rfl, by simp [putEnts], Nat.zero_le _, by show _ ≤ _; simp [putEnts], H2⟩
  case round =>
    obtain ⟨k, rfl, rfl, hk, HL, HW⟩ := hrel
    obtain ⟨V0, hV0⟩ : ∃ V, V = wr := ⟨_, rfl⟩
    subst hV0
    have a7 : V0.cell? ⟨B, 7, none⟩ = some (.slice ae m.ents.length ce) := cell_n (HB.out _ HW.out) 7 rfl
    by_cases hlt : k < m.ents.length
    · obtain ⟨b, off, us, rfl, -, -, hus, hcs⟩ := (HE.out _ HW.out).at hlt
      have e1 : us = rowE m.ents[k] := hus
      subst e1
      have m0 := hcs 0 _ rfl
      have m1 := hcs 1 _ rfl
      have m2 := hcs 2 _ rfl
      have m3 := hcs 3 _ rfl
      rw [Nat.add_zero] at m0
      clear hus hcs
      have hok := Hall.out m.ents[k] (List.getElem_mem hlt)
      have hsn : putEnts (m.ents.take (k + 1)) = putEnts (m.ents.take k) ++ putEnt m.ents[k].idx.toNat m.ents[k].trm.toNat m.ents[k].knd.toNat m.ents[k].dat := by
        rw [List.take_add_one, List.getElem?_eq_getElem hlt]
        exact putEnts_snoc _ _
      have K := ref_ent m.ents[k] hok V0
      have le := ent_len m.ents[k] hok
      obtain ⟨y, hy⟩ := hide m.ents[k]
      rw [hy.out] at hsn K le m0 m1 m2 m3
      obtain ⟨T, hT⟩ := hide (putEnts (m.ents.take k))
      rw [hT.out] at hsn HL
      obtain ⟨z, hz⟩ := hide (putEnt y.idx.toNat y.trm.toNat y.knd.toNat y.dat)
      rw [hz.out] at hsn K le
      rw [hT.out]
      have K := Lib.hid K
      have Hsn := Lib.hid hsn
      have HL2 : Hid ((putEnts (m.ents.take (k + 1))).length ≤ 292 * (k + 1)) := by
        show _ ≤ _
        rw [hsn, List.length_append]; have := HL.out; omega
      have hfit : S.length + T.length + z.length ≤ 9223372036854775807 := by have := HL.out; have := HSl.out; omega
      have hk9 : k < 8 := by omega
      obtain ⟨n, hn⟩ := hide m.ents.length
      have hkn : k < n := by rw [← hn.out]; exact hlt
      have hk2 : k + 1 ≤ m.ents.length := hlt
      rw [hn.out] at a7
      clear hsn hy hz le hok hlt hk hn8
      go_wp2_with fail
      refine K.out.mono ?_
      rintro e w3 ⟨rfl, hb3⟩
      have H3 : Hid (Below W.heap.size W w3) := HW.out.trans (hb3.mono HW.out.size)
      clear hb3 K m0 m1 m2 m3 a7
      dsimp only
      go_wp2_with fail
      go_roundw
      case rel => exact ⟨k + 1, by go_num, by rw [Hsn.out], hk2, HL2, H3⟩
      case measure => simp [intOf]; omega
    · have hkn : k = m.ents.length := by omega
      have t0 : decide (k < m.ents.length) = false := decide_eq_false hlt
      have Hq : Hid (post (.returned (.tuple #[str (S ++ putEnts (m.ents.take k)), .int .i64 0])) V0) := by
        show post _ _
        rw [hkn, List.take_length]; exact Hpp.out _ HW.out
      clear hlt hkn
      go_wp2_with fail
      first | exact Hq.out | (go_ret2; exact Hq.out) | (go_ret; exact Hq.out)
set_option maxHeartbeats 4000000 in
set_option maxRecDepth 100000 in
theorem ref_putMessage (m : Msg) (ev x y z : Value) (F : Nat → Prop) (w : World) (hE : Ents F w ev m.ents) (hc : Config3 w x y z m.sc) :
    Calls Try.prog 6 #[vMsg m ev x y z] w fun e w' => e = .returned (.tuple #[str (putMsgB m), .int .i64 (putMsgE m)]) ∧ Below w.heap.size w w' := by
  obtain ⟨post, HP⟩ := hide (fun (e : Ending) (w' : World) => e = .returned (.tuple #[str (putMsgB m), .int .i64 (putMsgE m)]) ∧ Below w.heap.size w w')
  rw [HP.out]
  obtain ⟨ae, ce, rfl, _, _⟩ := hE.slice
  obtain ⟨ax, cx, rfl, _⟩ := len_of_Ints hc.v
  obtain ⟨ay, cy, rfl, _⟩ := len_of_Ints hc.n
  obtain ⟨az, cz, rfl, _⟩ := len_of_Ints hc.l
  obtain ⟨W1, hW1⟩ := hide (w.alloc (.cells (rowMsg m (.slice ae m.ents.length ce) (.slice ax m.sc.v.length cx) (.slice ay m.sc.n.length cy) (.slice az m.sc.l.length cz)).toArray 29))
  have hb1 : Below w.heap.size w W1 := by rw [← hW1.out]; exact (Below.refl _ _).alloc (Nat.le_refl _) _
  have hx1 : W1.heap[w.heap.size]? = some (.cells (rowMsg m (.slice ae m.ents.length ce) (.slice ax m.sc.v.length cx) (.slice ay m.sc.n.length cy) (.slice az m.sc.l.length cz)).toArray 29 (0, 0)) := by rw [← hW1.out]; exact hp_at _ _ rfl
  obtain ⟨B, hB⟩ := hide w.heap.size
  rw [hB.out] at hx1
  have HB : Hid (∀ w', Below W1.heap.size W1 w' → w'.heap[B]? = some (.cells (rowMsg m (.slice ae m.ents.length ce) (.slice ax m.sc.v.length cx) (.slice ay m.sc.n.length cy) (.slice az m.sc.l.length cz)).toArray 29 (0, 0))) := fun w' h => (h.block B (lt_of_block hx1)).trans hx1
  have HE : Hid (∀ w', Below W1.heap.size W1 w' → Ents F w' (.slice ae m.ents.length ce) m.ents) := fun w' h => hE.frame (Plain.good _) (Agree.below (hb1.trans (h.mono hb1.size)))
  have HC : Hid (∀ w', Below W1.heap.size W1 w' → Config3 w' (.slice ax m.sc.v.length cx) (.slice ay m.sc.n.length cy) (.slice az m.sc.l.length cz) m.sc) := fun w' h => hc.mono (hb1.trans (h.mono hb1.size))
  have Hp : Hid (∀ w', Below W1.heap.size W1 w' → post (.returned (.tuple #[str (putMsgB m), .int .i64 (putMsgE m)])) w') := by
    show ∀ w', _ → _
    intro w' h
    rw [← HP.out]; exact ⟨rfl, hb1.trans (h.mono hb1.size)⟩
  have H0 : Hid (Below W1.heap.size W1 W1) := Below.refl _ _
  have HM : Hid (∀ w', Below W1.heap.size W1 w' → Calls Try.prog 16 #[vMsg m (.slice ae m.ents.length ce) (.slice ax m.sc.v.length cx) (.slice ay m.sc.n.length cy) (.slice az m.sc.l.length cz)] w' fun e w'' => e = .returned (.bool (isMsg m)) ∧ Below w'.heap.size w' w'') := fun w' h => ref_isMessage m _ _ _ _ _ w' (HE.out w' h) (HC.out w' h)
  clear hE hc hb1 hx1
  go_enter Try.func6, Try.ntmps6
  go_upto_region 1 with fail
  rw [hW1.out, hB.out]
  refine wp_region_lit ?_
  refine wpList_load_row rfl 29 (.tmp 1) rfl B rfl 29 (rowMsg m (.slice ae m.ents.length ce) (.slice ax m.sc.v.length cx) (.slice ay m.sc.n.length cy) (.slice az m.sc.l.length cz)).toArray (0, 0) _ (HB.out _ H0.out) Try.underlying29 rfl size_msg ?_
  have K := HM.out _ H0.out
  cases hm : isMsg m with
  | false =>
    rw [hm] at K
    have K := Lib.hid K
    have Hpp : Hid (∀ w', Below W1.heap.size W1 w' → post (.returned (.tuple #[str [], .int .i64 7])) w') := by
      show ∀ w', _ → _
      intro w' h
      have := Hp.out w' h
      rw [putMsgB, putMsgE, hm] at this
      exact this
    clear hm
    go_wp2_with fail
    refine K.out.mono ?_
    rintro e w2 ⟨rfl, hb2⟩
    have Hq := Lib.hid (Hpp.out _ hb2)
    clear hb2 K
    dsimp only
    go_wp2_with fail
    first | exact Hq.out | (go_ret2; exact Hq.out) | (go_ret; exact Hq.out)
  | true =>
    rw [hm] at K
    have K := Lib.hid K
    have Hpp : Hid (∀ w', Below W1.heap.size W1 w' → post (.returned (.tuple #[str (putMsg m), .int .i64 0])) w') := by
      show ∀ w', _ → _
      intro w' h
      have := Hp.out w' h
      rw [putMsgB, putMsgE, hm] at this
      exact this
    obtain ⟨g1, g2, g3, g4, g5, g6, g7, g8, g9, g10, g11, g12, g13, g14, g15, g16, g17, g18⟩ := isMsg_ranges hm
    have N1 := Lib.hid (fun w1 => ref_num m.kind (by omega) (by omega) w1)
    have N2 := Lib.hid (fun w1 => ref_num m.frm (by omega) (by omega) w1)
    have N3 := Lib.hid (fun w1 => ref_num m.dst (by omega) (by omega) w1)
    have N4 := Lib.hid (fun w1 => ref_num m.term (by omega) (by omega) w1)
    have N5 := Lib.hid (fun w1 => ref_num m.index (by omega) (by omega) w1)
    have N6 := Lib.hid (fun w1 => ref_num m.logTerm (by omega) (by omega) w1)
    have N7 := Lib.hid (fun w1 => ref_num m.commit (by omega) (by omega) w1)
    have N8 := Lib.hid (fun w1 => ref_num m.hint (by omega) (by omega) w1)
    have N9 := Lib.hid (fun w1 => ref_num m.ctx (by omega) (by omega) w1)
    have N10 := Lib.hid (fun w1 => ref_flag m.rej w1)
    have l1 : (putNum m.kind.toNat).length ≤ 9 := putNum_len10 (by omega)
    have l2 : (putNum m.frm.toNat).length ≤ 9 := putNum_len10 (by omega)
    have l3 : (putNum m.dst.toNat).length ≤ 9 := putNum_len10 (by omega)
    have l4 : (putNum m.term.toNat).length ≤ 9 := putNum_len10 (by omega)
    have l5 : (putNum m.index.toNat).length ≤ 9 := putNum_len10 (by omega)
    have l6 : (putNum m.logTerm.toNat).length ≤ 9 := putNum_len10 (by omega)
    have l7 : (putNum m.commit.toNat).length ≤ 9 := putNum_len10 (by omega)
    have l8 : (putNum m.hint.toNat).length ≤ 9 := putNum_len10 (by omega)
    have l9 : (putNum m.ctx.toNat).length ≤ 9 := putNum_len10 (by omega)
    have l10 : (flagB m.rej).length ≤ 9 := by cases m.rej <;> simp [flagB]
    obtain ⟨p1, h1⟩ := hide (putNum m.kind.toNat)
    obtain ⟨p2, h2⟩ := hide (putNum m.frm.toNat)
    obtain ⟨p3, h3⟩ := hide (putNum m.dst.toNat)
    obtain ⟨p4, h4⟩ := hide (putNum m.term.toNat)
    obtain ⟨p5, h5⟩ := hide (putNum m.index.toNat)
    obtain ⟨p6, h6⟩ := hide (putNum m.logTerm.toNat)
    obtain ⟨p7, h7⟩ := hide (putNum m.commit.toNat)
    obtain ⟨p8, h8⟩ := hide (putNum m.hint.toNat)
    obtain ⟨p9, h9⟩ := hide (putNum m.ctx.toNat)
    obtain ⟨p10, h10⟩ := hide (flagB m.rej)
    rw [h1.out] at N1 l1
    rw [h2.out] at N2 l2
    rw [h3.out] at N3 l3
    rw [h4.out] at N4 l4
    rw [h5.out] at N5 l5
    rw [h6.out] at N6 l6
    rw [h7.out] at N7 l7
    rw [h8.out] at N8 l8
    rw [h9.out] at N9 l9
    rw [h10.out] at N10 l10
    have Hl := Lib.hid (And.intro l1 (And.intro l2 (And.intro l3 (And.intro l4 (And.intro l5 (And.intro l6 (And.intro l7 (And.intro l8 (And.intro l9 l10)))))))))
    have Hm := Lib.hid hm
    have Hk := Lib.hid (And.intro g1 g2)
    clear l1 l2 l3 l4 l5 l6 l7 l8 l9 l10 g1 g2 g3 g4 g5 g6 g7 g8 g9 g10 g11 g12 g13 g14 g15 g16 g17 g18 hm
    go_wp2_with fail
    refine K.out.mono ?_
    rintro e w2 ⟨rfl, hb2⟩
    have H2 : Hid (Below W1.heap.size W1 w2) := hb2
    clear hb2 K
    dsimp only
    have a0 : w2.cell? ⟨B, 0, none⟩ = some (.int .i64 m.kind) := cell_n (HB.out _ H2.out) 0 rfl
    go_wp2_with fail
    refine (N1.out _).mono ?_
    rintro e w3 ⟨rfl, hb2⟩
    have H3 : Hid (Below W1.heap.size W1 w3) := H2.out.trans (hb2.mono H2.out.size)
    clear hb2 a0
    dsimp only
    have a1 : w3.cell? ⟨B, 1, none⟩ = some (.int .i64 m.frm) := cell_n (HB.out _ H3.out) 1 rfl
    go_wp2_with fail
    refine (N2.out _).mono ?_
    rintro e w4 ⟨rfl, hb2⟩
    have H4 : Hid (Below W1.heap.size W1 w4) := H3.out.trans (hb2.mono H3.out.size)
    clear hb2 a1
    dsimp only
    have a2 : w4.cell? ⟨B, 2, none⟩ = some (.int .i64 m.dst) := cell_n (HB.out _ H4.out) 2 rfl
    go_wp2_with fail
    refine (N3.out _).mono ?_
    rintro e w5 ⟨rfl, hb2⟩
    have H5 : Hid (Below W1.heap.size W1 w5) := H4.out.trans (hb2.mono H4.out.size)
    clear hb2 a2
    dsimp only
    have a3 : w5.cell? ⟨B, 3, none⟩ = some (.int .i64 m.term) := cell_n (HB.out _ H5.out) 3 rfl
    go_wp2_with fail
    refine (N4.out _).mono ?_
    rintro e w6 ⟨rfl, hb2⟩
    have H6 : Hid (Below W1.heap.size W1 w6) := H5.out.trans (hb2.mono H5.out.size)
    clear hb2 a3
    dsimp only
    have a4 : w6.cell? ⟨B, 4, none⟩ = some (.int .i64 m.index) := cell_n (HB.out _ H6.out) 4 rfl
    go_wp2_with fail
    refine (N5.out _).mono ?_
    rintro e w7 ⟨rfl, hb2⟩
    have H7 : Hid (Below W1.heap.size W1 w7) := H6.out.trans (hb2.mono H6.out.size)
    clear hb2 a4
    dsimp only
    have a5 : w7.cell? ⟨B, 5, none⟩ = some (.int .i64 m.logTerm) := cell_n (HB.out _ H7.out) 5 rfl
    go_wp2_with fail
    refine (N6.out _).mono ?_
    rintro e w8 ⟨rfl, hb2⟩
    have H8 : Hid (Below W1.heap.size W1 w8) := H7.out.trans (hb2.mono H7.out.size)
    clear hb2 a5
    dsimp only
    have a6 : w8.cell? ⟨B, 6, none⟩ = some (.int .i64 m.commit) := cell_n (HB.out _ H8.out) 6 rfl
    go_wp2_with fail
    refine (N7.out _).mono ?_
    rintro e w9 ⟨rfl, hb2⟩
    have H9 : Hid (Below W1.heap.size W1 w9) := H8.out.trans (hb2.mono H8.out.size)
    clear hb2 a6
    dsimp only
    have a15 : w9.cell? ⟨B, 15, none⟩ = some (.int .i64 m.hint) := cell_n (HB.out _ H9.out) 15 rfl
    go_wp2_with fail
    refine (N8.out _).mono ?_
    rintro e w10 ⟨rfl, hb2⟩
    have H10 : Hid (Below W1.heap.size W1 w10) := H9.out.trans (hb2.mono H9.out.size)
    clear hb2 a15
    dsimp only
    have a16 : w10.cell? ⟨B, 16, none⟩ = some (.int .i64 m.ctx) := cell_n (HB.out _ H10.out) 16 rfl
    go_wp2_with fail
    refine (N9.out _).mono ?_
    rintro e w11 ⟨rfl, hb2⟩
    have H11 : Hid (Below W1.heap.size W1 w11) := H10.out.trans (hb2.mono H10.out.size)
    clear hb2 a16
    dsimp only
    have a14 : w11.cell? ⟨B, 14, none⟩ = some (.bool m.rej) := cell_n (HB.out _ H11.out) 14 rfl
    go_wp2_with fail
    refine (N10.out _).mono ?_
    rintro e w12 ⟨rfl, hb2⟩
    have H12 : Hid (Below W1.heap.size W1 w12) := H11.out.trans (hb2.mono H11.out.size)
    clear hb2 a14
    dsimp only
    have hcl : (m.kind = 1 ∨ m.kind = 3) ∨ (m.kind = 2 ∨ m.kind = 4) ∨ m.kind = 6 ∨ m.kind = 7 ∨ m.kind = 5 := by have := Hk.out; omega
    rcases hcl with hk | hk | hk | hk | hk
    · iterate 8 (first | done | exact putR_ask m w12 B ae ax ay az ce cx cy cz F (fun w' h => HB.out w' (H12.out.trans (h.mono H12.out.size))) (fun w' h => HE.out w' (H12.out.trans (h.mono H12.out.size))) (fun w' h => HC.out w' (H12.out.trans (h.mono H12.out.size))) post Hm.out (fun w' h => Hpp.out w' (H12.out.trans (h.mono H12.out.size))) p1 p2 p3 p4 p5 p6 p7 p8 p9 p10 Hl h1 h2 h3 h4 h5 h6 h7 h8 h9 h10 hk | go_step)
    · iterate 8 (first | done | exact putR_rep m w12 B ae ax ay az ce cx cy cz F (fun w' h => HB.out w' (H12.out.trans (h.mono H12.out.size))) (fun w' h => HE.out w' (H12.out.trans (h.mono H12.out.size))) (fun w' h => HC.out w' (H12.out.trans (h.mono H12.out.size))) post Hm.out (fun w' h => Hpp.out w' (H12.out.trans (h.mono H12.out.size))) p1 p2 p3 p4 p5 p6 p7 p8 p9 p10 Hl h1 h2 h3 h4 h5 h6 h7 h8 h9 h10 hk | go_step)
    · iterate 8 (first | done | exact putR_back m w12 B ae ax ay az ce cx cy cz F (fun w' h => HB.out w' (H12.out.trans (h.mono H12.out.size))) (fun w' h => HE.out w' (H12.out.trans (h.mono H12.out.size))) (fun w' h => HC.out w' (H12.out.trans (h.mono H12.out.size))) post Hm.out (fun w' h => Hpp.out w' (H12.out.trans (h.mono H12.out.size))) p1 p2 p3 p4 p5 p6 p7 p8 p9 p10 Hl h1 h2 h3 h4 h5 h6 h7 h8 h9 h10 hk | go_step)
    · iterate 8 (first | done | exact putR_inst m w12 B ae ax ay az ce cx cy cz F (fun w' h => HB.out w' (H12.out.trans (h.mono H12.out.size))) (fun w' h => HE.out w' (H12.out.trans (h.mono H12.out.size))) (fun w' h => HC.out w' (H12.out.trans (h.mono H12.out.size))) post Hm.out (fun w' h => Hpp.out w' (H12.out.trans (h.mono H12.out.size))) p1 p2 p3 p4 p5 p6 p7 p8 p9 p10 Hl h1 h2 h3 h4 h5 h6 h7 h8 h9 h10 hk | go_step)
    · iterate 8 (first | done | exact putR_app m w12 B ae ax ay az ce cx cy cz F (fun w' h => HB.out w' (H12.out.trans (h.mono H12.out.size))) (fun w' h => HE.out w' (H12.out.trans (h.mono H12.out.size))) (fun w' h => HC.out w' (H12.out.trans (h.mono H12.out.size))) post Hm.out (fun w' h => Hpp.out w' (H12.out.trans (h.mono H12.out.size))) p1 p2 p3 p4 p5 p6 p7 p8 p9 p10 Hl h1 h2 h3 h4 h5 h6 h7 h8 h9 h10 hk | go_step)
end Go.Proofs.Ytkcllpbbjlbfaaa
