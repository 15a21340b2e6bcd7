/-
  What was kept is there: a round of the law: is there a snapshot?
-/
import Derived.Test.YtjlhlmnoomiblaaZ47
namespace Go.Proofs.Ytjlhlmnoomiblaa
open Go.RowKit Wm Mm Lg Fl
set_option linter.unusedVariables false
set_option linter.unusedSimpArgs false

theorem Ints.at2 {w : World} {a : Option Addr} {n c : Nat} {l : List Int} (h : Ints w (.slice a n c) l) {i : Nat} (hi : i < l.length) : ∃ b off, a = some ⟨b, off, none⟩ ∧ w.cell? ⟨b, off + i, none⟩ = some (.int .i64 l[i]) := by
  obtain ⟨ao, cap, he, hc, _⟩ := h
  injection he with e1 e2 e3
  subst e1
  obtain ⟨b, off, h1, h2⟩ := hc (fun e => by rw [e] at hi; exact absurd hi (Nat.not_lt_zero _))
  exact ⟨b, off, h1, h2 i _ (List.getElem?_eq_getElem hi)⟩
theorem last_term {k : Kp} {m : Nat} (hm : k.es.length = m + 1) (e : EntP) (h : m < (k.es ++ [e]).length) : ((k.es ++ [e])[m]'h).trm = lastT k.bt k.es := by
  rw [List.getElem_append_left (by omega), lastT_cons hm]
set_option maxHeartbeats 4000000 in
set_option maxRecDepth 100000 in
theorem crash_snap {v0 v2 v3 v4 v5 v6 v13 v15 v16 v17 v18 v19 v20 v21 v22 v23 v24 v25 v26 v27 v28 v29 v30 v31 v32 v33 v34 v35 v36 v37 v38 v39 v40 v41 v42 v43 v44 v45 v46 v47 v48 v49 v50 v51 v52 v53 v54 v55 v56 v57 v58 v59 v60 v61 v62 v63 v64 v65 v66 v67 v68 v69 v70 v71 v72 v73 v74 v75 v76 v77 v78 v79 v80 v81 v82 v83 v84 v85 v86 v87 v88 v89 v90 v91 v92 v93 v94 v95 v96 v97 v98 v99 v100 v101 v102 v103 v104 v105 v106 v107 v108 v109 v110 v111 v112 v113 v114 v115 v116 v117 v118 v119 v120 v121 v122 v123 v124 v125 v126 v127 v128 v129 v130 v131 v132 v133 v134 v135 v136 v137 v138 v139 v140 v141 v142 v143 v144 v145 v146 v147 v148 v149 v150 v151 v152 v153 v154 v155 v156 v157 v158 v159 v160 v161 v162 v163 v164 v165 v166 v167 v168 v169 v170 v171 v172 v173 v174 v175 v176 v177 v178 v179 v180 v181 v182 v183 v184 v185 v186 v187 v188 v189 v190 v191 v192 v193 v194 v195 v196 v197 v198 v199 v200 v201 v202 v203 v204 v205 v206 v207 v208 v209 v210 v211 v212 v213 v214 v215 v216 v217 v218 v219 v220 v221 v222 v223 v224 v225 v226 v227 v228 v229 v230 v231 v232 v233 v234 v235 v236 v237 v238 v239 v240 v241 v242 v243 v244 v245 v246 v247 v248 v249 v250 v251 v252 v253 v254 v255 v256 v257 v258 v259 v260 v261 v262 v263 v264 v265 v266 v267 v268 v269 v270 v271 v272 v273 v274 v275 v276 v277 v278 v279 v280 v281 v282 v283 v284 v285 v286 v287 v288 v289 v290 v291 v292 v293 v294 v295 v296 v297 v298 v299 v300 v301 v302 v303 v304 v305 v306 v307 v308 : Value} (w W : World) (C P A i : Nat) (k kw : Kp) (t v : Int) (b : UInt8) (s s1 old : List UInt8) (m1 m2 m3 : Option Addr) (mp1 mp2 mp3 : Nat) (xe : Option Addr) (ne xf : Nat) (x y z cx cy cz ew xw yw zw dx dy dz : Value) (so : Option Addr) (sc : Nat) (sn : List Int)
    (HQ : Hid (KpAt (FF P A) W P (appK k t v b) (.slice xe ne xf) x y z cx cy cz)) (HA : Hid (KpAt (FF P A) W A k ew xw yw zw dx dy dz)) (Hne : Hid (ne = k.es.length + 1))
    (HC : Hid (W.heap[C]? = some (.cells #[.slice m1 2 mp1, .slice m2 0 mp2, .slice m3 0 mp3] 24 (0, 0)))) (Hc : Hid (ConfG (FF P A) W (.slice m1 2 mp1) (.slice m2 0 mp2) (.slice m3 0 mp3) c12))
    (HW : Hid (Below w.heap.size w W)) (Hp : Hid (PlainSt i k kw s old)) (Hs1 : Hid (s1 = s ++ appB k t v b)) (Ht : Hid (1 ≤ t ∧ t ≤ i + 1 ∧ k.t ≤ t ∧ 0 ≤ v ∧ v ≤ 9)) (hi : i < 30)
    (HB : Hid (P ≠ A ∧ C ≠ P ∧ C ≠ A ∧ w.heap.size ≤ P ∧ w.heap.size ≤ A)) (HS : Hid (∀ w', Below w.heap.size w w' → Ints w' (.slice so sn.length sc) sn))
    (K : Act → World → Prop)
    (HK : Hid (∀ (u6 u9 u10 u17 u118 u119 u120 u121 u122 u123 u124 u125 u126 u127 u128 u129 u130 u131 u132 u133 u134 u135 u136 u137 u138 u139 u140 u141 u142 u143 u144 u145 u146 u147 u148 u149 u150 u151 u152 u153 u154 u155 u156 u157 u158 u159 u160 u161 u162 u163 u164 u165 u166 u167 u168 u169 u170 u171 u172 u173 u174 u175 u176 u177 u178 u179 u180 u181 u182 u183 u184 u185 u186 u187 u188 u189 u190 u191 u192 u193 u194 u195 u196 u197 u198 u199 u200 u201 u202 : Value) (wx : World), RoundC w wx C P A (i + 1) u9 u10 m1 m2 m3 mp1 mp2 mp3 → K ⟨#[v0, .slice so sn.length sc, v2, v3, v4, v5, u6, .pointer (some ⟨C, 0, none⟩), .pointer (some ⟨P, 0, none⟩), u9, u10, .pointer (some ⟨A, 0, none⟩), .int .i64 (i : Int), v13, .int .i64 (endK k), v15, v16, u17, v18, v19, v20, v21, v22, v23, v24, v25, v26, v27, v28, v29, v30, v31, v32, v33, v34, v35, v36, v37, v38, v39, v40, v41, v42, v43, v44, v45, v46, v47, v48, v49, v50, v51, v52, v53, v54, v55, v56, v57, v58, v59, v60, v61, v62, v63, v64, v65, v66, v67, v68, v69, v70, v71, v72, v73, v74, v75, v76, v77, v78, v79, v80, v81, v82, v83, v84, v85, v86, v87, v88, v89, v90, v91, v92, v93, v94, v95, v96, v97, v98, v99, v100, v101, v102, v103, v104, v105, v106, v107, v108, v109, v110, v111, v112, v113, v114, v115, v116, v117, u118, u119, u120, u121, u122, u123, u124, u125, u126, u127, u128, u129, u130, u131, u132, u133, u134, u135, u136, u137, u138, u139, u140, u141, u142, u143, u144, u145, u146, u147, u148, u149, u150, u151, u152, u153, u154, u155, u156, u157, u158, u159, u160, u161, u162, u163, u164, u165, u166, u167, u168, u169, u170, u171, u172, u173, u174, u175, u176, u177, u178, u179, u180, u181, u182, u183, u184, u185, u186, u187, u188, u189, u190, u191, u192, u193, u194, u195, u196, u197, u198, u199, u200, u201, u202, v203, v204, v205, v206, v207, v208, v209, v210, v211, v212, v213, v214, v215, v216, v217, v218, v219, v220, v221, v222, v223, v224, v225, v226, v227, v228, v229, v230, v231, v232, v233, v234, v235, v236, v237, v238, v239, v240, v241, v242, v243, v244, v245, v246, v247, v248, v249, v250, v251, v252, v253, v254, v255, v256, v257, v258, v259, v260, v261, v262, v263, v264, v265, v266, v267, v268, v269, v270, v271, v272, v273, v274, v275, v276, v277, v278, v279, v280, v281, v282, v283, v284, v285, v286, v287, v288, v289, v290, v291, v292, v293, v294, v295, v296, v297, v298, v299, v300, v301, v302, v303, v304, v305, v306, v307, v308], []⟩ wx)) :
    Code.wp Try.prog ((Try.f3.body.bind (seqAt 26)).getD .skip) (Exit.then K (fun _ _ _ => False)) ⟨#[v0, .slice so sn.length sc, v2, v3, v4, v5, v6, .pointer (some ⟨C, 0, none⟩), .pointer (some ⟨P, 0, none⟩), str s1, str s, .pointer (some ⟨A, 0, none⟩), .int .i64 (i : Int), v13, .int .i64 (endK k), v15, v16, v17, v18, v19, v20, v21, v22, v23, v24, v25, v26, v27, v28, v29, v30, v31, v32, v33, v34, v35, v36, v37, v38, v39, v40, v41, v42, v43, v44, v45, v46, v47, v48, v49, v50, v51, v52, v53, v54, v55, v56, v57, v58, v59, v60, v61, v62, v63, v64, v65, v66, v67, v68, v69, v70, v71, v72, v73, v74, v75, v76, v77, v78, v79, v80, v81, v82, v83, v84, v85, v86, v87, v88, v89, v90, v91, v92, v93, v94, v95, v96, v97, v98, v99, v100, v101, v102, v103, v104, v105, v106, v107, v108, v109, v110, v111, v112, v113, v114, v115, v116, v117, v118, v119, v120, v121, v122, v123, v124, v125, v126, v127, v128, v129, v130, v131, v132, v133, v134, v135, v136, v137, v138, v139, v140, v141, v142, v143, v144, v145, v146, v147, v148, v149, v150, v151, v152, v153, v154, v155, v156, v157, v158, v159, v160, v161, v162, v163, v164, v165, v166, v167, v168, v169, v170, v171, v172, v173, v174, v175, v176, v177, v178, v179, v180, v181, v182, v183, v184, v185, v186, v187, v188, v189, v190, v191, v192, v193, v194, v195, v196, v197, v198, v199, v200, v201, v202, v203, v204, v205, v206, v207, v208, v209, v210, v211, v212, v213, v214, v215, v216, v217, v218, v219, v220, v221, v222, v223, v224, v225, v226, v227, v228, v229, v230, v231, v232, v233, v234, v235, v236, v237, v238, v239, v240, v241, v242, v243, v244, v245, v246, v247, v248, v249, v250, v251, v252, v253, v254, v255, v256, v257, v258, v259, v260, v261, v262, v263, v264, v265, v266, v267, v268, v269, v270, v271, v272, v273, v274, v275, v276, v277, v278, v279, v280, v281, v282, v283, v284, v285, v286, v287, v288, v289, v290, v291, v292, v293, v294, v295, v296, v297, v298, v299, v300, v301, v302, v303, v304, v305, v306, v307, v308], []⟩ W := by
  conv => arg 2; whnf
  obtain ⟨a1, ap1, h1a, _⟩ := len_of_Ints HQ.out.sc.v.ints
  obtain ⟨a2, ap2, h2a, _⟩ := len_of_Ints HQ.out.sc.n.ints
  obtain ⟨a3, ap3, h3a, _⟩ := len_of_Ints HQ.out.sc.l.ints
  obtain ⟨a4, ap4, h4a, _⟩ := len_of_Ints HQ.out.cf.v.ints
  obtain ⟨a5, ap5, h5a, _⟩ := len_of_Ints HQ.out.cf.n.ints
  obtain ⟨a6, ap6, h6a, _⟩ := len_of_Ints HQ.out.cf.l.ints
  subst h1a h2a h3a h4a h5a h6a
  have HEnd : Hid (∀ w1, Below W.heap.size W w1 → RoundC w w1 C P A (i + 1) (str s1) (str s) m1 m2 m3 mp1 mp2 mp3) := by
    show ∀ w1, _ → _
    intro w1 hb
    refine ⟨appK k t v b, k, s1, s, _, _, _, _, _, _, _, _, _, _, _, _, _, _, rfl, rfl, ⟨HQ.out.below hb, HA.out.below hb, (hb.block C (lt_of_block HC.out)).trans HC.out, Hc.out.frame (Agree.below hb), HW.out.trans (hb.mono HW.out.size), ?_⟩⟩
    rw [Hs1.out]
    exact Hp.out.app (by omega) b Ht.out.1 Ht.out.2.1 Ht.out.2.2.1 Ht.out.2.2.2.1 Ht.out.2.2.2.2
  have hkb := HQ.out.blk
  have d3 := cell_n hkb 3 (v := .int .i64 k.base) rfl
  clear hkb
  by_cases h1 : i < sn.length
  · obtain ⟨sb, sf, rfl, c0⟩ := Ints.at2 (HS.out W HW.out) h1
    have t1 : decide (i < sn.length) = true := decide_eq_true h1
    have t1' : decide ((i : Int) < (sn.length : Int)) = true := decide_eq_true (by omega)
    have h1i : (i : Int) < (sn.length : Int) := by omega
    obtain ⟨y0, hy0⟩ := hide sn[i]
    rw [hy0.out] at c0
    have KP : Hid (Calls Try.prog 4 #[.int .i64 y0, .int .i64 4] W fun e w' => e = .returned (.int .i64 ((pickN y0 4 : Nat) : Int)) ∧ W = w') := pick_any y0 4 W (by decide) (by decide)
    obtain ⟨p4, hp4⟩ := hide (pickN y0 4)
    rw [hp4.out] at KP
    go_wp2_with fail
    refine KP.out.mono ?_
    rintro e w1 ⟨rfl, rfl⟩
    clear c0
    dsimp only
    by_cases h2 : (p4 : Int) = 0
    · have t2 : ((p4 : Int) == 0) = true := by rw [h2]; rfl
      by_cases h3 : k.base < endK k
      · have t3 : decide (k.base < endK k) = true := decide_eq_true h3
        have Hbs := Lib.hid h3
        obtain ⟨m, hm⟩ : ∃ m, k.es.length = m + 1 := ⟨k.es.length - 1, by unfold endK at h3; omega⟩
        have Hm := Lib.hid hm
        have hme : m < (k.es ++ [newE k t b]).length := by rw [List.length_append]; omega
        obtain ⟨eb, eo, rfl, -, c1, -, -⟩ := Sl.fourE HQ.out.es hme
        rw [last_term hm] at c1
        obtain ⟨lt, hlt⟩ := hide (lastT k.bt k.es)
        rw [hlt.out] at c1
        obtain ⟨n1, hn1⟩ := hide k.es.length
        have Hn1 : Hid (n1 = m + 1 ∧ n1 + 1 = ne ∧ n1 ≤ 30) := by
          show _ ∧ _
          have h4 := hn1.out
          have h5 := Hne.out
          have h6 := Hp.out.1.en
          have h7 := Hp.out.1.inv.ok.b0
          unfold endK at h6
          exact ⟨by omega, by omega, by omega⟩
        have hw1 : IntKind.i64.wrap (endK k - k.base) = (n1 : Int) := by
          have e : endK k - k.base = (n1 : Int) := by have := hn1.out; unfold endK; omega
          rw [e]
          exact IntWalk.i64_in _ (by have := Hn1.out; omega)
        have hw2 : IntKind.i64.wrap ((n1 : Int) - 1) = (m : Int) := by
          have e : (n1 : Int) - 1 = (m : Int) := by have := Hn1.out; omega
          rw [e]
          exact IntWalk.i64_in _ (by have := Hn1.out; omega)
        have hmn : m < ne := by have := Hn1.out; omega
        have hmni : (m : Int) < (ne : Int) := by omega
        have hnne : n1 ≤ ne := by have := Hn1.out; omega
        have hnnei : (n1 : Int) ≤ (ne : Int) := by omega
        have hkb := HQ.out.blk
        have d5 := cell_n hkb 5 (v := .slice (some ⟨eb, eo, none⟩) ne xf) rfl
        have d6 := cell_n hkb 6 (v := .int .i64 k.si) rfl
        have d7 := cell_n hkb 7 (v := .int .i64 k.st) rfl
        have d8 := cell_n hkb 8 (v := .slice a1 k.sc.v.length ap1) rfl
        have d9 := cell_n hkb 9 (v := .slice a2 k.sc.n.length ap2) rfl
        have d10 := cell_n hkb 10 (v := .slice a3 k.sc.l.length ap3) rfl
        have d11 := cell_n hkb 11 (v := str k.sd) rfl
        have f3 := free_n hkb 3
        have f4 := free_n hkb 4
        have f5 := free_n hkb 5
        have f6 := free_n hkb 6
        have f7 := free_n hkb 7
        have f8 := free_n hkb 8
        have f9 := free_n hkb 9
        have f10 := free_n hkb 10
        have f11 := free_n hkb 11
        have ce0 := cell_n HC.out 0 (v := .slice m1 2 mp1) rfl
        have ce1 := cell_n HC.out 1 (v := .slice m2 0 mp2) rfl
        have ce2 := cell_n HC.out 2 (v := .slice m3 0 mp3) rfl
        clear hkb h3 hm hme h2
        go_upto_region 27 with fail
        go_region
        clear t1 t1' h1i t2 t3 c1
        go_upto_region 28 with fail
        show Code.wp _ _ _ _ ((setFrom W P 6 [.int .i64 (endK k), .int .i64 lt, .slice m1 2 mp1, .slice m2 0 mp2, .slice m3 0 mp3, .string ⟨#[115, 116, 97, 116, 101]⟩]).drew)
        obtain ⟨W1, hW1⟩ := hide ((setFrom W P 6 [.int .i64 (endK k), .int .i64 lt, .slice m1 2 mp1, .slice m2 0 mp2, .slice m3 0 mp3, .string ⟨#[115, 116, 97, 116, 101]⟩]).drew)
        have hc1 : Chg (fun b => b = P) W W1 := by rw [← hW1.out]; exact (chg_from P _ W 6).trans (Chg.drew _ _)
        have hb1 : W1.heap[P]? = some (.cells #[.int .i64 t, .int .i64 v, .int .i64 (endK k), .int .i64 k.base, .int .i64 k.bt, .slice (some ⟨eb, eo, none⟩) ne xf, .int .i64 (endK k), .int .i64 lt, .slice m1 2 mp1, .slice m2 0 mp2, .slice m3 0 mp3, str [115, 116, 97, 116, 101], .slice a4 k.cf.v.length ap4, .slice a5 k.cf.n.length ap5, .slice a6 k.cf.l.length ap6] 33 (0, 0)) := by
          have h := from_at (b := P) (t := 33) (vs := [.int .i64 (endK k), .int .i64 lt, .slice m1 2 mp1, .slice m2 0 mp2, .slice m3 0 mp3, .string ⟨#[115, 116, 97, 116, 101]⟩]) (w := W) (i := 6) (xs := [.int .i64 t, .int .i64 v, .int .i64 (endK k), .int .i64 k.base, .int .i64 k.bt, .slice (some ⟨eb, eo, none⟩) ne xf, .int .i64 k.si, .int .i64 k.st, .slice a1 k.sc.v.length ap1, .slice a2 k.sc.n.length ap2, .slice a3 k.sc.l.length ap3, str k.sd, .slice a4 k.cf.v.length ap4, .slice a5 k.cf.n.length ap5, .slice a6 k.cf.l.length ap6]) HQ.out.blk
          rw [← hW1.out]
          exact h
        rw [hW1.out]
        have Hc1 := Lib.hid hc1
        have Hb1 := Lib.hid hb1
        clear d3 d5 d6 d7 d8 d9 d10 d11 f3 f4 f5 f6 f7 f8 f9 f10 f11 ce0 ce1 ce2
        have d3 := cell_n hb1 3 (v := .int .i64 k.base) rfl
        have d4 := cell_n hb1 4 (v := .int .i64 k.bt) rfl
        have d5 := cell_n hb1 5 (v := .slice (some ⟨eb, eo, none⟩) ne xf) rfl
        have d7 := cell_n hb1 7 (v := .int .i64 lt) rfl
        have f3 := free_n hb1 3
        have f4 := free_n hb1 4
        have f5 := free_n hb1 5
        have hxf : ¬ xf = n1 := by
          obtain ⟨ao, cap, he, hcp, _⟩ := HQ.out.es.slice
          injection he with e1 e2 e3
          have := Hn1.out
          have h5 : (appK k t v b).es.length = ne := by rw [Hne.out]; simp
          omega
        have hd1 : ne - n1 = 1 := by have := Hn1.out; omega
        clear hc1 hb1
        have hc2 : Chg (fun b => b = P) W1 ((setFrom W1 P 3 [.int .i64 (endK k), .int .i64 lt, .slice (some ⟨eb, eo + n1 * 4, none⟩) 1 (xf - n1)]).drew) := (chg_from P _ W1 3).trans (Chg.drew _ _)
        have hb2 : ((setFrom W1 P 3 [.int .i64 (endK k), .int .i64 lt, .slice (some ⟨eb, eo + n1 * 4, none⟩) 1 (xf - n1)]).drew).heap[P]? = some (.cells (cellsK (cutK k t v b) (.slice (some ⟨eb, eo + n1 * 4, none⟩) 1 (xf - n1)) (.slice m1 2 mp1) (.slice m2 0 mp2) (.slice m3 0 mp3) (.slice a4 k.cf.v.length ap4) (.slice a5 k.cf.n.length ap5) (.slice a6 k.cf.l.length ap6)) 33 (0, 0)) := by
          have h := from_at (b := P) (t := 33) (vs := [.int .i64 (endK k), .int .i64 lt, .slice (some ⟨eb, eo + n1 * 4, none⟩) 1 (xf - n1)]) (w := W1) (i := 3) (xs := [.int .i64 t, .int .i64 v, .int .i64 (endK k), .int .i64 k.base, .int .i64 k.bt, .slice (some ⟨eb, eo, none⟩) ne xf, .int .i64 (endK k), .int .i64 lt, .slice m1 2 mp1, .slice m2 0 mp2, .slice m3 0 mp3, str [115, 116, 97, 116, 101], .slice a4 k.cf.v.length ap4, .slice a5 k.cf.n.length ap5, .slice a6 k.cf.l.length ap6]) Hb1.out
          have e : cellsK (cutK k t v b) (.slice (some ⟨eb, eo + n1 * 4, none⟩) 1 (xf - n1)) (.slice m1 2 mp1) (.slice m2 0 mp2) (.slice m3 0 mp3) (.slice a4 k.cf.v.length ap4) (.slice a5 k.cf.n.length ap5) (.slice a6 k.cf.l.length ap6) = (setL [.int .i64 t, .int .i64 v, .int .i64 (endK k), .int .i64 k.base, .int .i64 k.bt, .slice (some ⟨eb, eo, none⟩) ne xf, .int .i64 (endK k), .int .i64 lt, .slice m1 2 mp1, .slice m2 0 mp2, .slice m3 0 mp3, str [115, 116, 97, 116, 101], .slice a4 k.cf.v.length ap4, .slice a5 k.cf.n.length ap5, .slice a6 k.cf.l.length ap6] 3 [.int .i64 (endK k), .int .i64 lt, .slice (some ⟨eb, eo + n1 * 4, none⟩) 1 (xf - n1)]).toArray := by
            show #[_, _, _, _, Value.int .i64 (lastT k.bt k.es), _, _, Value.int .i64 (lastT k.bt k.es), _, _, _, _, _, _, _] = _
            rw [hlt.out]
            rfl
          rw [e]
          exact h
        have hcW := Hc1.out.trans hc2
        have hesn : Ents (FF P A) W (.slice (some ⟨eb, eo + n1 * 4, none⟩) 1 (xf - n1)) [newE k t b] := by
          have h := HQ.out.es.drop (k := n1) (by show n1 ≤ (k.es ++ [_]).length; rw [List.length_append, hn1.out]; omega)
          rw [hd1] at h
          have e : (appK k t v b).es.drop n1 = [newE k t b] := by show (k.es ++ [newE k t b]).drop n1 = _; rw [← hn1.out, List.drop_left]
          rw [e] at h
          exact h
        have hcfn : ConfG (FF P A) W (.slice a4 k.cf.v.length ap4) (.slice a5 k.cf.n.length ap5) (.slice a6 k.cf.l.length ap6) c12 := by
          have h : ConfG (FF P A) W (.slice a4 k.cf.v.length ap4) (.slice a5 k.cf.n.length ap5) (.slice a6 k.cf.l.length ap6) k.cf := HQ.out.cf
          have e : k.cf = c12 := Hp.out.1.cf
          exact (congrArg (fun z => ConfG (FF P A) W (.slice a4 k.cf.v.length ap4) (.slice a5 k.cf.n.length ap5) (.slice a6 k.cf.l.length ap6) z) e).mp h
        have K1 : Hid (KpAt (FF P A) ((setFrom W1 P 3 [.int .i64 (endK k), .int .i64 lt, .slice (some ⟨eb, eo + n1 * 4, none⟩) 1 (xf - n1)]).drew) P (cutK k t v b) (.slice (some ⟨eb, eo + n1 * 4, none⟩) 1 (xf - n1)) (.slice m1 2 mp1) (.slice m2 0 mp2) (.slice m3 0 mp3) (.slice a4 k.cf.v.length ap4) (.slice a5 k.cf.n.length ap5) (.slice a6 k.cf.l.length ap6)) := HQ.out.put hcW hb2 hesn Hc.out hcfn
        have K2 := Lib.hid (HA.out.chg hcW (fun h => h.1 rfl) (Ne.symm HB.out.1))
        have K3 := Lib.hid (hcW.at HC.out HB.out.2.1)
        have K4 := Lib.hid (Hc.out.frame (hcW.agree (fun b hb e => hb.1 e)))
        have K5 : Hid (Below w.heap.size w ((setFrom W1 P 3 [.int .i64 (endK k), .int .i64 lt, .slice (some ⟨eb, eo + n1 * 4, none⟩) 1 (xf - n1)]).drew)) := HW.out.trans (hcW.toBelow (fun b hb => by have := HB.out; omega) HW.out.size)
        clear hc2 hb2 hcW hesn hcfn
        go_region
        iterate 30 (first | done | (refine crash_cut w ((setFrom W1 P 3 [.int .i64 (endK k), .int .i64 lt, .slice (some ⟨eb, eo + n1 * 4, none⟩) 1 (xf - n1)]).drew) C P A i k kw t v b s s1 old m1 m2 m3 mp1 mp2 mp3 _ _ _ _ _ _ _ _ _ _ _ _ K1 K2 K3 K4 K5 Hp Hs1 Ht hi Hbs HB K ?_; unfold Hid; intros; rename_i hr; (refine HK.out _ _ _ _ _ _ _ _ _ _ _ _ _ _ _ _ _ _ _ _ _ _ _ _ _ _ _ _ _ _ _ _ _ _ _ _ _ _ _ _ _ _ _ _ _ _ _ _ _ _ _ _ _ _ _ _ _ _ _ _ _ _ _ _ _ _ _ _ _ _ _ _ _ _ _ _ _ _ _ _ _ _ _ _ _ _ _ _ _ _ ?_; exact hr); done) | go_step)
      · have t3 : decide (k.base < endK k) = false := decide_eq_false h3
        clear h2 h3
        go_wp2_with fail
        (refine HK.out _ _ _ _ _ _ _ _ _ _ _ _ _ _ _ _ _ _ _ _ _ _ _ _ _ _ _ _ _ _ _ _ _ _ _ _ _ _ _ _ _ _ _ _ _ _ _ _ _ _ _ _ _ _ _ _ _ _ _ _ _ _ _ _ _ _ _ _ _ _ _ _ _ _ _ _ _ _ _ _ _ _ _ _ _ _ _ _ _ _ ?_; exact HEnd.out W (Below.refl _ _))
    · have t2 : ((p4 : Int) == 0) = false := beq_eq_false_iff_ne.2 h2
      clear h2
      go_wp2_with fail
      (refine HK.out _ _ _ _ _ _ _ _ _ _ _ _ _ _ _ _ _ _ _ _ _ _ _ _ _ _ _ _ _ _ _ _ _ _ _ _ _ _ _ _ _ _ _ _ _ _ _ _ _ _ _ _ _ _ _ _ _ _ _ _ _ _ _ _ _ _ _ _ _ _ _ _ _ _ _ _ _ _ _ _ _ _ _ _ _ _ _ _ _ _ ?_; exact HEnd.out W (Below.refl _ _))
  · have t1 : decide (i < sn.length) = false := decide_eq_false h1
    have t1' : decide ((i : Int) < (sn.length : Int)) = false := decide_eq_false (by omega)
    clear h1
    go_wp2_with fail
    (refine HK.out _ _ _ _ _ _ _ _ _ _ _ _ _ _ _ _ _ _ _ _ _ _ _ _ _ _ _ _ _ _ _ _ _ _ _ _ _ _ _ _ _ _ _ _ _ _ _ _ _ _ _ _ _ _ _ _ _ _ _ _ _ _ _ _ _ _ _ _ _ _ _ _ _ _ _ _ _ _ _ _ _ _ _ _ _ _ _ _ _ _ ?_; exact HEnd.out W (Below.refl _ _))
end Go.Proofs.Ytjlhlmnoomiblaa
