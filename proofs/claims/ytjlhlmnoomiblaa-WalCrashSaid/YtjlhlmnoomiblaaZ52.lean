/-
  What was kept is there: a round of the law, whole.
-/
import Derived.Test.YtjlhlmnoomiblaaZ51
namespace Go.Proofs.Ytjlhlmnoomiblaa
open Go.RowKit Wm Mm Lg Fl
set_option linter.unusedVariables false
set_option linter.unusedSimpArgs false

theorem Stk.num {n : Nat} {k : Kp} {s : List UInt8} (h : Stk n k s) : 0 ≤ k.t := h.inv.t.1
set_option maxHeartbeats 4000000 in
set_option maxRecDepth 100000 in
theorem crash_round {v2 v3 v4 v5 v6 v13 v14 v15 v16 v17 v18 v19 v20 v21 v22 v23 v24 v25 v26 v27 v28 v29 v30 v31 v32 v33 v34 v35 v36 v37 v38 v39 v40 v41 v42 v43 v44 v45 v46 v47 v48 v49 v50 v51 v52 v53 v54 v55 v56 v57 v58 v59 v60 v61 v62 v63 v64 v65 v66 v67 v68 v69 v70 v71 v72 v73 v74 v75 v76 v77 v78 v79 v80 v81 v82 v83 v84 v85 v86 v87 v88 v89 v90 v91 v92 v93 v94 v95 v96 v97 v98 v99 v100 v101 v102 v103 v104 v105 v106 v107 v108 v109 v110 v111 v112 v113 v114 v115 v116 v117 v118 v119 v120 v121 v122 v123 v124 v125 v126 v127 v128 v129 v130 v131 v132 v133 v134 v135 v136 v137 v138 v139 v140 v141 v142 v143 v144 v145 v146 v147 v148 v149 v150 v151 v152 v153 v154 v155 v156 v157 v158 v159 v160 v161 v162 v163 v164 v165 v166 v167 v168 v169 v170 v171 v172 v173 v174 v175 v176 v177 v178 v179 v180 v181 v182 v183 v184 v185 v186 v187 v188 v189 v190 v191 v192 v193 v194 v195 v196 v197 v198 v199 v200 v201 v202 v203 v204 v205 v206 v207 v208 v209 v210 v211 v212 v213 v214 v215 v216 v217 v218 v219 v220 v221 v222 v223 v224 v225 v226 v227 v228 v229 v230 v231 v232 v233 v234 v235 v236 v237 v238 v239 v240 v241 v242 v243 v244 v245 v246 v247 v248 v249 v250 v251 v252 v253 v254 v255 v256 v257 v258 v259 v260 v261 v262 v263 v264 v265 v266 v267 v268 v269 v270 v271 v272 v273 v274 v275 v276 v277 v278 v279 v280 v281 v282 v283 v284 v285 v286 v287 v288 v289 v290 v291 v292 v293 v294 v295 v296 v297 v298 v299 v300 v301 v302 v303 v304 v305 v306 v307 v308 : Value} (w W : World) (C P A i : Nat) (k kw : Kp) (s old : List UInt8) (m1 m2 m3 : Option Addr) (mp1 mp2 mp3 : Nat) (ev x y z cx cy cz ew xw yw zw dx dy dz : Value) (so : Option Addr) (sc : Nat) (sn : List Int) (tb tf tc : Nat) (tn : List Int)
    (HQ : Hid (KpAt (FF P A) W P k ev x y z cx cy cz)) (HA : Hid (KpAt (FF P A) W A kw ew xw yw zw dx dy dz))
    (HC : Hid (W.heap[C]? = some (.cells #[.slice m1 2 mp1, .slice m2 0 mp2, .slice m3 0 mp3] 24 (0, 0)))) (Hc : Hid (ConfG (FF P A) W (.slice m1 2 mp1) (.slice m2 0 mp2) (.slice m3 0 mp3) c12))
    (HW : Hid (Below w.heap.size w W)) (Hp : Hid (PlainSt i k kw s old)) (hi : i < 30) (hit : i < tn.length)
    (HB : Hid (P ≠ A ∧ C ≠ P ∧ C ≠ A ∧ w.heap.size ≤ P ∧ w.heap.size ≤ A)) (HS : Hid (∀ w', Below w.heap.size w w' → Ints w' (.slice so sn.length sc) sn)) (HT : Hid (∀ w', Below w.heap.size w w' → Ints w' (.slice (some ⟨tb, tf, none⟩) tn.length tc) tn))
    (K : Act → World → Prop)
    (HK : Hid (∀ (u6 u9 u10 u13 u14 u15 u16 u17 u44 u45 u46 u47 u48 u49 u50 u51 u52 u53 u54 u55 u56 u57 u58 u59 u60 u61 u62 u63 u64 u65 u66 u67 u68 u69 u70 u71 u72 u73 u74 u75 u76 u77 u78 u79 u80 u81 u82 u83 u84 u85 u86 u87 u88 u89 u90 u91 u92 u93 u94 u95 u96 u97 u98 u99 u100 u101 u102 u103 u104 u105 u106 u107 u108 u109 u110 u111 u112 u113 u114 u115 u116 u117 u118 u119 u120 u121 u122 u123 u124 u125 u126 u127 u128 u129 u130 u131 u132 u133 u134 u135 u136 u137 u138 u139 u140 u141 u142 u143 u144 u145 u146 u147 u148 u149 u150 u151 u152 u153 u154 u155 u156 u157 u158 u159 u160 u161 u162 u163 u164 u165 u166 u167 u168 u169 u170 u171 u172 u173 u174 u175 u176 u177 u178 u179 u180 u181 u182 u183 u184 u185 u186 u187 u188 u189 u190 u191 u192 u193 u194 u195 u196 u197 u198 u199 u200 u201 u202 : Value) (wx : World), RoundC w wx C P A (i + 1) u9 u10 m1 m2 m3 mp1 mp2 mp3 → K ⟨#[.slice (some ⟨tb, tf, none⟩) tn.length tc, .slice so sn.length sc, v2, v3, v4, v5, u6, .pointer (some ⟨C, 0, none⟩), .pointer (some ⟨P, 0, none⟩), u9, u10, .pointer (some ⟨A, 0, none⟩), .int .i64 (i : Int), u13, u14, u15, u16, u17, v18, v19, v20, v21, v22, v23, v24, v25, v26, v27, v28, v29, v30, v31, v32, v33, v34, v35, v36, v37, v38, v39, v40, v41, v42, v43, u44, u45, u46, u47, u48, u49, u50, u51, u52, u53, u54, u55, u56, u57, u58, u59, u60, u61, u62, u63, u64, u65, u66, u67, u68, u69, u70, u71, u72, u73, u74, u75, u76, u77, u78, u79, u80, u81, u82, u83, u84, u85, u86, u87, u88, u89, u90, u91, u92, u93, u94, u95, u96, u97, u98, u99, u100, u101, u102, u103, u104, u105, u106, u107, u108, u109, u110, u111, u112, u113, u114, u115, u116, u117, u118, u119, u120, u121, u122, u123, u124, u125, u126, u127, u128, u129, u130, u131, u132, u133, u134, u135, u136, u137, u138, u139, u140, u141, u142, u143, u144, u145, u146, u147, u148, u149, u150, u151, u152, u153, u154, u155, u156, u157, u158, u159, u160, u161, u162, u163, u164, u165, u166, u167, u168, u169, u170, u171, u172, u173, u174, u175, u176, u177, u178, u179, u180, u181, u182, u183, u184, u185, u186, u187, u188, u189, u190, u191, u192, u193, u194, u195, u196, u197, u198, u199, u200, u201, u202, v203, v204, v205, v206, v207, v208, v209, v210, v211, v212, v213, v214, v215, v216, v217, v218, v219, v220, v221, v222, v223, v224, v225, v226, v227, v228, v229, v230, v231, v232, v233, v234, v235, v236, v237, v238, v239, v240, v241, v242, v243, v244, v245, v246, v247, v248, v249, v250, v251, v252, v253, v254, v255, v256, v257, v258, v259, v260, v261, v262, v263, v264, v265, v266, v267, v268, v269, v270, v271, v272, v273, v274, v275, v276, v277, v278, v279, v280, v281, v282, v283, v284, v285, v286, v287, v288, v289, v290, v291, v292, v293, v294, v295, v296, v297, v298, v299, v300, v301, v302, v303, v304, v305, v306, v307, v308], []⟩ wx)) :
    Code.wp Try.prog ((Try.f3.body.bind (blockAt 1)).getD .skip) (Exit.then K (fun _ _ _ => False)) ⟨#[.slice (some ⟨tb, tf, none⟩) tn.length tc, .slice so sn.length sc, v2, v3, v4, v5, v6, .pointer (some ⟨C, 0, none⟩), .pointer (some ⟨P, 0, none⟩), str s, str old, .pointer (some ⟨A, 0, none⟩), .int .i64 (i : Int), v13, v14, v15, v16, v17, v18, v19, v20, v21, v22, v23, v24, v25, v26, v27, v28, v29, v30, v31, v32, v33, v34, v35, v36, v37, v38, v39, v40, v41, v42, v43, v44, v45, v46, v47, v48, v49, v50, v51, v52, v53, v54, v55, v56, v57, v58, v59, v60, v61, v62, v63, v64, v65, v66, v67, v68, v69, v70, v71, v72, v73, v74, v75, v76, v77, v78, v79, v80, v81, v82, v83, v84, v85, v86, v87, v88, v89, v90, v91, v92, v93, v94, v95, v96, v97, v98, v99, v100, v101, v102, v103, v104, v105, v106, v107, v108, v109, v110, v111, v112, v113, v114, v115, v116, v117, v118, v119, v120, v121, v122, v123, v124, v125, v126, v127, v128, v129, v130, v131, v132, v133, v134, v135, v136, v137, v138, v139, v140, v141, v142, v143, v144, v145, v146, v147, v148, v149, v150, v151, v152, v153, v154, v155, v156, v157, v158, v159, v160, v161, v162, v163, v164, v165, v166, v167, v168, v169, v170, v171, v172, v173, v174, v175, v176, v177, v178, v179, v180, v181, v182, v183, v184, v185, v186, v187, v188, v189, v190, v191, v192, v193, v194, v195, v196, v197, v198, v199, v200, v201, v202, v203, v204, v205, v206, v207, v208, v209, v210, v211, v212, v213, v214, v215, v216, v217, v218, v219, v220, v221, v222, v223, v224, v225, v226, v227, v228, v229, v230, v231, v232, v233, v234, v235, v236, v237, v238, v239, v240, v241, v242, v243, v244, v245, v246, v247, v248, v249, v250, v251, v252, v253, v254, v255, v256, v257, v258, v259, v260, v261, v262, v263, v264, v265, v266, v267, v268, v269, v270, v271, v272, v273, v274, v275, v276, v277, v278, v279, v280, v281, v282, v283, v284, v285, v286, v287, v288, v289, v290, v291, v292, v293, v294, v295, v296, v297, v298, v299, v300, v301, v302, v303, v304, v305, v306, v307, v308], []⟩ W := by
  conv => arg 2; whnf
  obtain ⟨ae, af, hev, _, _⟩ := HQ.out.es.slice
  subst hev
  obtain ⟨a1, ap1, h1a, _⟩ := len_of_Ints HQ.out.sc.v.ints
  obtain ⟨a2, ap2, h2a, _⟩ := len_of_Ints HQ.out.sc.n.ints
  obtain ⟨a3, ap3, h3a, _⟩ := len_of_Ints HQ.out.sc.l.ints
  obtain ⟨a4, ap4, h4a, _⟩ := len_of_Ints HQ.out.cf.v.ints
  obtain ⟨a5, ap5, h5a, _⟩ := len_of_Ints HQ.out.cf.n.ints
  obtain ⟨a6, ap6, h6a, _⟩ := len_of_Ints HQ.out.cf.l.ints
  subst h1a h2a h3a h4a h5a h6a
  obtain ⟨W1, hW1⟩ := hide (setAll W A (cellsK k (.slice ae k.es.length af) (.slice a1 k.sc.v.length ap1) (.slice a2 k.sc.n.length ap2) (.slice a3 k.sc.l.length ap3) (.slice a4 k.cf.v.length ap4) (.slice a5 k.cf.n.length ap5) (.slice a6 k.cf.l.length ap6)).toList)
  have hc : Chg (fun b => b = A) W (setAll W A (cellsK k (.slice ae k.es.length af) (.slice a1 k.sc.v.length ap1) (.slice a2 k.sc.n.length ap2) (.slice a3 k.sc.l.length ap3) (.slice a4 k.cf.v.length ap4) (.slice a5 k.cf.n.length ap5) (.slice a6 k.cf.l.length ap6)).toList) := chg_from A _ W 0
  have hblk : (setAll W A (cellsK k (.slice ae k.es.length af) (.slice a1 k.sc.v.length ap1) (.slice a2 k.sc.n.length ap2) (.slice a3 k.sc.l.length ap3) (.slice a4 k.cf.v.length ap4) (.slice a5 k.cf.n.length ap5) (.slice a6 k.cf.l.length ap6)).toList).heap[A]? = some (.cells (cellsK k (.slice ae k.es.length af) (.slice a1 k.sc.v.length ap1) (.slice a2 k.sc.n.length ap2) (.slice a3 k.sc.l.length ap3) (.slice a4 k.cf.v.length ap4) (.slice a5 k.cf.n.length ap5) (.slice a6 k.cf.l.length ap6)) 33 (0, 0)) := from_at (b := A) (t := 33) (vs := (cellsK k (.slice ae k.es.length af) (.slice a1 k.sc.v.length ap1) (.slice a2 k.sc.n.length ap2) (.slice a3 k.sc.l.length ap3) (.slice a4 k.cf.v.length ap4) (.slice a5 k.cf.n.length ap5) (.slice a6 k.cf.l.length ap6)).toList) (w := W) (i := 0) (xs := (cellsK kw ew xw yw zw dx dy dz).toList) HA.out.blk
  have Hth : Hid (W.there A 0 15) := there_ofW HA.out.blk
  rw [hW1.out] at hc hblk
  have K1 := Lib.hid (HQ.out.chg hc (fun h => h.2 rfl) HB.out.1)
  have K2 : Hid (KpAt (FF P A) W1 A k _ _ _ _ _ _ _) := HA.out.put hc hblk HQ.out.es HQ.out.sc HQ.out.cf
  have K3 := Lib.hid (hc.at HC.out HB.out.2.2.1)
  have K4 := Lib.hid (Hc.out.frame (hc.agree (fun b hb e => hb.2 e)))
  have K5 : Hid (Below w.heap.size w W1) := HW.out.trans (hc.toBelow (fun b hb => by have := HB.out; omega) HW.out.size)
  have Hi1 := Lib.hid (HT.out W1 K5.out)
  clear hc hblk
  go_upto_region 12 with fail
  refine wp_region_lit ?_
  refine wpList_load_row rfl 33 (.tmp 8) rfl P rfl 33 (cellsK k (.slice ae k.es.length af) (.slice a1 k.sc.v.length ap1) (.slice a2 k.sc.n.length ap2) (.slice a3 k.sc.l.length ap3) (.slice a4 k.cf.v.length ap4) (.slice a5 k.cf.n.length ap5) (.slice a6 k.cf.l.length ap6)) (0, 0) _ HQ.out.blk Try.underlying33 rfl size_kept ?_
  refine wpList_store_mid rfl 33 (.tmp 11) (.tmp 44) rfl A 0 (cellsK k (.slice ae k.es.length af) (.slice a1 k.sc.v.length ap1) (.slice a2 k.sc.n.length ap2) (.slice a3 k.sc.l.length ap3) (.slice a4 k.cf.v.length ap4) (.slice a5 k.cf.n.length ap5) (.slice a6 k.cf.l.length ap6)) rfl rfl Hth.out size_kept (by simp [Value.oneCell']) ?_
  rw [setCells_eqW]
  show wpList _ _ _ _ _ (setAll W A (cellsK k (.slice ae k.es.length af) (.slice a1 k.sc.v.length ap1) (.slice a2 k.sc.n.length ap2) (.slice a3 k.sc.l.length ap3) (.slice a4 k.cf.v.length ap4) (.slice a5 k.cf.n.length ap5) (.slice a6 k.cf.l.length ap6)).toList)
  rw [hW1.out]
  have d0 := cell_n K1.out.blk 0 (v := .int .i64 k.t) rfl
  obtain ⟨tb2, tf2, hte, c0⟩ := Ints.at2 Hi1.out hit
  injection hte with hte1
  injection hte1 with hte4 hte5 hte6
  subst hte4 hte5
  clear hte6
  have hiti : (i : Int) < (tn.length : Int) := by omega
  obtain ⟨y0, hy0⟩ := hide tn[i]
  rw [hy0.out] at c0
  have KP : Hid (∀ w1, Calls Try.prog 4 #[.int .i64 y0, .int .i64 2] w1 fun e w' => e = .returned (.int .i64 ((pickN y0 2 : Nat) : Int)) ∧ w1 = w') := fun w1 => pick_any y0 2 w1 (by decide) (by decide)
  have hv2 : (pickN y0 2 : Int) < 2 := pickN_lt (by decide)
  obtain ⟨pv, hpv⟩ := hide (pickN y0 2)
  rw [hpv.out] at KP hv2
  have hkt := Hp.out.1.num
  have hkn := Hp.out.1.tn
  have hwr : IntKind.i64.wrap (k.t + (pv : Int)) = k.t + (pv : Int) := IntWalk.i64_in _ (by omega)
  obtain ⟨kt, hkt0⟩ := hide k.t
  rw [hkt0.out] at d0 hwr hkt hkn
  have d0' : W1.drew.cell? ⟨P, 0, none⟩ = some (.int .i64 kt) := d0
  have c0' : W1.drew.cell? ⟨tb, tf + i, none⟩ = some (.int .i64 y0) := c0
  go_upto_region 14 with fail
  try dsimp only
  go_cut [13] from 46 to 54 (fun s13 wx => s13 = .int .i64 (kt + (pv : Int)) ∧ wx = W1.drew)
  case first =>
    go_region_law (go_simp; go_at_call 4; (with_reducible refine (KP.out _).mono ?_); rintro e w5 ⟨rfl, rfl⟩)
    all_goals
      go_wp2_with fail
      go_meet
      exact ⟨rfl, rfl⟩
  case rest =>
    obtain ⟨rfl, hwc⟩ := hcut
    subst hwc
    have hbd : Below W1.heap.size W1 W1.drew := (Below.refl _ _).drew
    have L1 := Lib.hid (K1.out.below hbd)
    have L2 := Lib.hid (K2.out.below hbd)
    have L3 : Hid (W1.drew.heap[C]? = _) := K3
    have L4 := Lib.hid (K4.out.frame (Agree.below hbd))
    clear hbd
    have L5 : Hid (Below w.heap.size w W1.drew) := K5.out.drew
    clear d0 c0 d0' c0' hwr KP
    by_cases h0 : kt + (pv : Int) = 0
    · have t0 : (kt + (pv : Int) == 0) = true := beq_iff_eq.2 h0
      have Ht : Hid (1 ≤ (1 : Int) ∧ (1 : Int) ≤ i + 1 ∧ k.t ≤ 1) := by show _ ∧ _ ∧ _; rw [hkt0.out]; exact ⟨by omega, by omega, by omega⟩
      iterate 30 (first | done | (refine piece_seq (crash_mk w W1.drew C P A i k kw 1 s old m1 m2 m3 mp1 mp2 mp3 _ _ _ _ _ _ _ _ _ _ _ _ _ _ so sc sn tb tf tc tn L1 L2 L3 L4 L5 Hp Ht hi hit HB HS HT _ ?_) (fun _ _ h => h); unfold Hid; intros; rename_i hr; go_wp2_with fail; (refine HK.out _ _ _ _ _ _ _ _ _ _ _ _ _ _ _ _ _ _ _ _ _ _ _ _ _ _ _ _ _ _ _ _ _ _ _ _ _ _ _ _ _ _ _ _ _ _ _ _ _ _ _ _ _ _ _ _ _ _ _ _ _ _ _ _ _ _ _ _ _ _ _ _ _ _ _ _ _ _ _ _ _ _ _ _ _ _ _ _ _ _ _ _ _ _ _ _ _ _ _ _ _ _ _ _ _ _ _ _ _ _ _ _ _ _ _ _ _ _ _ _ _ _ _ _ _ _ _ _ _ _ _ _ _ _ _ _ _ _ _ _ _ _ _ _ _ _ _ _ _ _ _ _ _ _ _ _ _ _ _ _ _ _ _ _ _ _ _ _ ?_; exact hr); done) | go_step)
    · have t0 : (kt + (pv : Int) == 0) = false := beq_eq_false_iff_ne.2 h0
      have Ht : Hid (1 ≤ kt + (pv : Int) ∧ kt + (pv : Int) ≤ i + 1 ∧ k.t ≤ kt + (pv : Int)) := by show _ ∧ _ ∧ _; rw [hkt0.out]; exact ⟨by omega, by omega, by omega⟩
      iterate 30 (first | done | (refine piece_seq (crash_mk w W1.drew C P A i k kw (kt + (pv : Int)) s old m1 m2 m3 mp1 mp2 mp3 _ _ _ _ _ _ _ _ _ _ _ _ _ _ so sc sn tb tf tc tn L1 L2 L3 L4 L5 Hp Ht hi hit HB HS HT _ ?_) (fun _ _ h => h); unfold Hid; intros; rename_i hr; go_wp2_with fail; (refine HK.out _ _ _ _ _ _ _ _ _ _ _ _ _ _ _ _ _ _ _ _ _ _ _ _ _ _ _ _ _ _ _ _ _ _ _ _ _ _ _ _ _ _ _ _ _ _ _ _ _ _ _ _ _ _ _ _ _ _ _ _ _ _ _ _ _ _ _ _ _ _ _ _ _ _ _ _ _ _ _ _ _ _ _ _ _ _ _ _ _ _ _ _ _ _ _ _ _ _ _ _ _ _ _ _ _ _ _ _ _ _ _ _ _ _ _ _ _ _ _ _ _ _ _ _ _ _ _ _ _ _ _ _ _ _ _ _ _ _ _ _ _ _ _ _ _ _ _ _ _ _ _ _ _ _ _ _ _ _ _ _ _ _ _ _ _ _ _ _ ?_; exact hr); done) | go_step)
end Go.Proofs.Ytjlhlmnoomiblaa
