/-
  What was kept is there: a round of the law: its head.
-/
import Derived.Test.YtjlhlmnoomiblaaZ50
namespace Go.Proofs.Ytjlhlmnoomiblaa
open Go.RowKit Wm Mm Lg Fl
set_option linter.unusedVariables false
set_option linter.unusedSimpArgs false

set_option maxHeartbeats 4000000 in
set_option maxRecDepth 100000 in
theorem crash_mk {v2 v3 v4 v5 v6 v14 v15 v16 v17 v18 v19 v20 v21 v22 v23 v24 v25 v26 v27 v28 v29 v30 v31 v32 v33 v34 v35 v36 v37 v38 v39 v40 v41 v42 v43 v44 v45 v46 v47 v48 v49 v50 v51 v52 v53 v54 v55 v56 v57 v58 v59 v60 v61 v62 v63 v64 v65 v66 v67 v68 v69 v70 v71 v72 v73 v74 v75 v76 v77 v78 v79 v80 v81 v82 v83 v84 v85 v86 v87 v88 v89 v90 v91 v92 v93 v94 v95 v96 v97 v98 v99 v100 v101 v102 v103 v104 v105 v106 v107 v108 v109 v110 v111 v112 v113 v114 v115 v116 v117 v118 v119 v120 v121 v122 v123 v124 v125 v126 v127 v128 v129 v130 v131 v132 v133 v134 v135 v136 v137 v138 v139 v140 v141 v142 v143 v144 v145 v146 v147 v148 v149 v150 v151 v152 v153 v154 v155 v156 v157 v158 v159 v160 v161 v162 v163 v164 v165 v166 v167 v168 v169 v170 v171 v172 v173 v174 v175 v176 v177 v178 v179 v180 v181 v182 v183 v184 v185 v186 v187 v188 v189 v190 v191 v192 v193 v194 v195 v196 v197 v198 v199 v200 v201 v202 v203 v204 v205 v206 v207 v208 v209 v210 v211 v212 v213 v214 v215 v216 v217 v218 v219 v220 v221 v222 v223 v224 v225 v226 v227 v228 v229 v230 v231 v232 v233 v234 v235 v236 v237 v238 v239 v240 v241 v242 v243 v244 v245 v246 v247 v248 v249 v250 v251 v252 v253 v254 v255 v256 v257 v258 v259 v260 v261 v262 v263 v264 v265 v266 v267 v268 v269 v270 v271 v272 v273 v274 v275 v276 v277 v278 v279 v280 v281 v282 v283 v284 v285 v286 v287 v288 v289 v290 v291 v292 v293 v294 v295 v296 v297 v298 v299 v300 v301 v302 v303 v304 v305 v306 v307 v308 : Value} (w W : World) (C P A i : Nat) (k kw : Kp) (t : Int) (s old : List UInt8) (m1 m2 m3 : Option Addr) (mp1 mp2 mp3 : Nat) (ev x y z cx cy cz ew xw yw zw dx dy dz : Value) (so : Option Addr) (sc : Nat) (sn : List Int) (tb tf tc : Nat) (tn : List Int)
    (HQ : Hid (KpAt (FF P A) W P k ev x y z cx cy cz)) (HA : Hid (KpAt (FF P A) W A k ew xw yw zw dx dy dz))
    (HC : Hid (W.heap[C]? = some (.cells #[.slice m1 2 mp1, .slice m2 0 mp2, .slice m3 0 mp3] 24 (0, 0)))) (Hc : Hid (ConfG (FF P A) W (.slice m1 2 mp1) (.slice m2 0 mp2) (.slice m3 0 mp3) c12))
    (HW : Hid (Below w.heap.size w W)) (Hp : Hid (PlainSt i k kw s old)) (Ht : Hid (1 ≤ t ∧ t ≤ i + 1 ∧ k.t ≤ t)) (hi : i < 30) (hit : i < tn.length)
    (HB : Hid (P ≠ A ∧ C ≠ P ∧ C ≠ A ∧ w.heap.size ≤ P ∧ w.heap.size ≤ A)) (HS : Hid (∀ w', Below w.heap.size w w' → Ints w' (.slice so sn.length sc) sn)) (HT : Hid (∀ w', Below w.heap.size w w' → Ints w' (.slice (some ⟨tb, tf, none⟩) tn.length tc) tn))
    (K : Act → World → Prop)
    (HK : Hid (∀ (u6 u9 u10 u14 u15 u16 u17 u57 u58 u59 u60 u61 u62 u63 u64 u65 u66 u67 u68 u69 u70 u71 u72 u73 u74 u75 u76 u77 u78 u79 u80 u81 u82 u83 u84 u85 u86 u87 u88 u89 u90 u91 u92 u93 u94 u95 u96 u97 u98 u99 u100 u101 u102 u103 u104 u105 u106 u107 u108 u109 u110 u111 u112 u113 u114 u115 u116 u117 u118 u119 u120 u121 u122 u123 u124 u125 u126 u127 u128 u129 u130 u131 u132 u133 u134 u135 u136 u137 u138 u139 u140 u141 u142 u143 u144 u145 u146 u147 u148 u149 u150 u151 u152 u153 u154 u155 u156 u157 u158 u159 u160 u161 u162 u163 u164 u165 u166 u167 u168 u169 u170 u171 u172 u173 u174 u175 u176 u177 u178 u179 u180 u181 u182 u183 u184 u185 u186 u187 u188 u189 u190 u191 u192 u193 u194 u195 u196 u197 u198 u199 u200 u201 u202 : Value) (wx : World), RoundC w wx C P A (i + 1) u9 u10 m1 m2 m3 mp1 mp2 mp3 → K ⟨#[.slice (some ⟨tb, tf, none⟩) tn.length tc, .slice so sn.length sc, v2, v3, v4, v5, u6, .pointer (some ⟨C, 0, none⟩), .pointer (some ⟨P, 0, none⟩), u9, u10, .pointer (some ⟨A, 0, none⟩), .int .i64 (i : Int), .int .i64 t, u14, u15, u16, u17, v18, v19, v20, v21, v22, v23, v24, v25, v26, v27, v28, v29, v30, v31, v32, v33, v34, v35, v36, v37, v38, v39, v40, v41, v42, v43, v44, v45, v46, v47, v48, v49, v50, v51, v52, v53, v54, v55, v56, u57, u58, u59, u60, u61, u62, u63, u64, u65, u66, u67, u68, u69, u70, u71, u72, u73, u74, u75, u76, u77, u78, u79, u80, u81, u82, u83, u84, u85, u86, u87, u88, u89, u90, u91, u92, u93, u94, u95, u96, u97, u98, u99, u100, u101, u102, u103, u104, u105, u106, u107, u108, u109, u110, u111, u112, u113, u114, u115, u116, u117, u118, u119, u120, u121, u122, u123, u124, u125, u126, u127, u128, u129, u130, u131, u132, u133, u134, u135, u136, u137, u138, u139, u140, u141, u142, u143, u144, u145, u146, u147, u148, u149, u150, u151, u152, u153, u154, u155, u156, u157, u158, u159, u160, u161, u162, u163, u164, u165, u166, u167, u168, u169, u170, u171, u172, u173, u174, u175, u176, u177, u178, u179, u180, u181, u182, u183, u184, u185, u186, u187, u188, u189, u190, u191, u192, u193, u194, u195, u196, u197, u198, u199, u200, u201, u202, v203, v204, v205, v206, v207, v208, v209, v210, v211, v212, v213, v214, v215, v216, v217, v218, v219, v220, v221, v222, v223, v224, v225, v226, v227, v228, v229, v230, v231, v232, v233, v234, v235, v236, v237, v238, v239, v240, v241, v242, v243, v244, v245, v246, v247, v248, v249, v250, v251, v252, v253, v254, v255, v256, v257, v258, v259, v260, v261, v262, v263, v264, v265, v266, v267, v268, v269, v270, v271, v272, v273, v274, v275, v276, v277, v278, v279, v280, v281, v282, v283, v284, v285, v286, v287, v288, v289, v290, v291, v292, v293, v294, v295, v296, v297, v298, v299, v300, v301, v302, v303, v304, v305, v306, v307, v308], []⟩ wx)) :
    Code.wp Try.prog ((Try.f3.body.bind (seqAt 17)).getD .skip) (Exit.then K (fun _ _ _ => False)) ⟨#[.slice (some ⟨tb, tf, none⟩) tn.length tc, .slice so sn.length sc, v2, v3, v4, v5, v6, .pointer (some ⟨C, 0, none⟩), .pointer (some ⟨P, 0, none⟩), str s, str s, .pointer (some ⟨A, 0, none⟩), .int .i64 (i : Int), .int .i64 t, v14, v15, v16, v17, v18, v19, v20, v21, v22, v23, v24, v25, v26, v27, v28, v29, v30, v31, v32, v33, v34, v35, v36, v37, v38, v39, v40, v41, v42, v43, v44, v45, v46, v47, v48, v49, v50, v51, v52, v53, v54, v55, v56, v57, v58, v59, v60, v61, v62, v63, v64, v65, v66, v67, v68, v69, v70, v71, v72, v73, v74, v75, v76, v77, v78, v79, v80, v81, v82, v83, v84, v85, v86, v87, v88, v89, v90, v91, v92, v93, v94, v95, v96, v97, v98, v99, v100, v101, v102, v103, v104, v105, v106, v107, v108, v109, v110, v111, v112, v113, v114, v115, v116, v117, v118, v119, v120, v121, v122, v123, v124, v125, v126, v127, v128, v129, v130, v131, v132, v133, v134, v135, v136, v137, v138, v139, v140, v141, v142, v143, v144, v145, v146, v147, v148, v149, v150, v151, v152, v153, v154, v155, v156, v157, v158, v159, v160, v161, v162, v163, v164, v165, v166, v167, v168, v169, v170, v171, v172, v173, v174, v175, v176, v177, v178, v179, v180, v181, v182, v183, v184, v185, v186, v187, v188, v189, v190, v191, v192, v193, v194, v195, v196, v197, v198, v199, v200, v201, v202, v203, v204, v205, v206, v207, v208, v209, v210, v211, v212, v213, v214, v215, v216, v217, v218, v219, v220, v221, v222, v223, v224, v225, v226, v227, v228, v229, v230, v231, v232, v233, v234, v235, v236, v237, v238, v239, v240, v241, v242, v243, v244, v245, v246, v247, v248, v249, v250, v251, v252, v253, v254, v255, v256, v257, v258, v259, v260, v261, v262, v263, v264, v265, v266, v267, v268, v269, v270, v271, v272, v273, v274, v275, v276, v277, v278, v279, v280, v281, v282, v283, v284, v285, v286, v287, v288, v289, v290, v291, v292, v293, v294, v295, v296, v297, v298, v299, v300, v301, v302, v303, v304, v305, v306, v307, v308], []⟩ W := by
  conv => arg 2; whnf
  obtain ⟨ae, af, hev, _, _⟩ := HQ.out.es.slice
  subst hev
  have hek : 0 ≤ endK k ∧ endK k ≤ 30 := by have h6 := Hp.out.1.en; have h7 := Hp.out.1.inv.ok.b0; unfold endK at h6 ⊢; omega
  have hw1 : IntKind.i64.wrap (k.base + (k.es.length : Int)) = endK k := IntWalk.i64_in _ (by unfold endK at hek; omega)
  have hw2 : IntKind.i64.wrap (endK k + 1) = endK k + 1 := IntWalk.i64_in _ (by omega)
  have hw3 : IntKind.u8.wrap (i : Int) = (i : Int) := IntWalk.u8_in _ (by omega)
  have kc0 := toStr1 (i : Int)
  have kc : ∀ w1 : World, (convert 35 9 (.slice (some ⟨w1.heap.size, 0, none⟩) 1 1)).run Try.prog (w1.alloc (.cells #[.int .u8 (i : Int)] 5)) = .ok (str [UInt8.ofNat i]) (w1.alloc (.cells #[.int .u8 (i : Int)] 5)) := kc0
  have d3 := cell_n HQ.out.blk 3 (v := .int .i64 k.base) rfl
  have d5 := cell_n HQ.out.blk 5 (v := .slice ae k.es.length af) rfl
  obtain ⟨V, hV⟩ := hide ((W.alloc (.cells #[.int .u8 (i : Int)] 5)).alloc (.cells #[.int .i64 (endK k + 1), .int .i64 t, .int .i64 1, str [UInt8.ofNat i]] 37))
  obtain ⟨X, hX⟩ := hide (W.heap.size + 1)
  have hbV : Below W.heap.size W V := by rw [← hV.out]; exact ((Below.refl _ _).alloc (Nat.le_refl _) _).alloc (by simp) _
  have HbV := Lib.hid hbV
  have HXV : Hid (V.heap[X]? = some (.cells #[.int .i64 (endK k + 1), .int .i64 t, .int .i64 1, str [UInt8.ofNat i]] 37 (0, 0))) := by show _ = _; rw [← hV.out, ← hX.out]; exact hp_at _ _ (by simp)
  have HXP : Hid (X ≠ P ∧ W.heap.size ≤ X) := by show _ ∧ _; have h1 := lt_of_block HQ.out.blk; have h2 := hX.out; exact ⟨by omega, by omega⟩
  clear kc0 hbV
  go_upto_region 19 with fail
  show Code.wp _ _ _ _ ((W.alloc (.cells #[.int .u8 (i : Int)] 5)).alloc (.cells #[.int .i64 (endK k + 1), .int .i64 t, .int .i64 1, str [UInt8.ofNat i]] 37))
  rw [hV.out, hX.out]
  clear d3 d5
  obtain ⟨tb2, tf2, hte, c0⟩ := Ints.at2 ((HT.out W HW.out).mono HbV.out) hit
  injection hte with hte1
  injection hte1 with hte4 hte5 hte6
  subst hte4 hte5
  clear hte6
  have hiti : (i : Int) < (tn.length : Int) := by omega
  obtain ⟨y0, hy0⟩ := hide tn[i]
  rw [hy0.out] at c0
  have KP : Hid (∀ w1, Calls Try.prog 4 #[.int .i64 y0, .int .i64 3] w1 fun e w' => e = .returned (.int .i64 ((pickN y0 3 : Nat) : Int)) ∧ w1 = w') := fun w1 => pick_any y0 3 w1 (by decide) (by decide)
  have hv3 : (pickN y0 3 : Int) < 3 := pickN_lt (by decide)
  obtain ⟨pv, hpv⟩ := hide (pickN y0 3)
  rw [hpv.out] at KP hv3
  have Hv3 : Hid ((0 : Int) ≤ (pv : Int) ∧ (pv : Int) ≤ 9) := ⟨by omega, by omega⟩
  have HFx : Hid (∀ w', Below V.heap.size V w' → (fun u : World => u.cell? ⟨X, 0, none⟩ = some (.int .i64 (endK k + 1)) ∧ u.cell? ⟨X, 1, none⟩ = some (.int .i64 t) ∧ u.cell? ⟨X, 2, none⟩ = some (.int .i64 1) ∧ u.cell? ⟨X, 3, none⟩ = some (str [UInt8.ofNat i]) ∧ u.cell? ⟨tb, tf + i, none⟩ = some (.int .i64 y0)) w') := by
    show ∀ w', _ → _
    intro w' hb
    have h1 := (hb.block X (lt_of_block HXV.out)).trans HXV.out
    exact ⟨cell_n h1 0 rfl, cell_n h1 1 rfl, cell_n h1 2 rfl, cell_n h1 3 rfl, (hb.cell (p := ⟨tb, tf + i, none⟩) (World.block_lt_of_cell? _ _ c0)).trans c0⟩
  try dsimp only
  go_cut [16] from 73 to 83 (fun s16 wx => ∃ R, s16 = .pointer (some ⟨R, 0, none⟩) ∧ Hid (ReadyAt V wx R t (pv : Int) (endK k) (newE k t (UInt8.ofNat i))))
  case first =>
    rename_i J' K' hJ' hK'
    refine piece_any (crash_rdy V X i tb tf tn.length tc t (endK k) y0 (pv : Int) (UInt8.ofNat i) hit hiti KP HFx K' ?_)
    unfold Hid
    intros
    refine hK' _ _ (Met.intro (hJ' _ _ ?_))
    (repeat apply Exists.intro)
    refine ⟨?_, rfl⟩
    rename_i hr
    obtain ⟨R, rfl, hr⟩ := hr
    exact ⟨R, rfl, hr⟩
  case rest =>
    obtain ⟨R, rfl, HRd⟩ := hcut
    obtain ⟨wd, hwd⟩ := hide wc
    rw [hwd.out] at HRd
    have HRE := HRd.out
    obtain ⟨E, hR, hE, hbR, hRs⟩ := HRE
    have HbW : Hid (Below W.heap.size W wd) := HbV.out.trans (hbR.mono HbV.out.size)
    have K1 := Lib.hid (HQ.out.below HbW.out)
    have K2 := Lib.hid (HA.out.below HbW.out)
    have K0 := Lib.hid ((hbR.block X (lt_of_block HXV.out)).trans HXV.out)
    have K3 := Lib.hid ((HbW.out.block C (lt_of_block HC.out)).trans HC.out)
    have K4 := Lib.hid (Hc.out.frame (Agree.below HbW.out))
    have K5 : Hid (Below w.heap.size w wd) := HW.out.trans (HbW.out.mono HW.out.size)
    have HR := Lib.hid hR
    have HE := Lib.hid hE
    have HXR : Hid (X ≠ P ∧ R ≠ P) := ⟨HXP.out.1, by have h1 := lt_of_block HQ.out.blk; have h2 := HbV.out.size; omega⟩
    have Ht2 : Hid (1 ≤ t ∧ t ≤ i + 1 ∧ k.t ≤ t ∧ 0 ≤ (pv : Int) ∧ (pv : Int) ≤ 9) := ⟨Ht.out.1, Ht.out.2.1, Ht.out.2.2, Hv3.out.1, Hv3.out.2⟩
    clear hR hE hbR hRs
    rw [hwd.out]
    iterate 20 (first | done | (refine crash_save w wd C P A X R E i k kw t (pv : Int) (UInt8.ofNat i) s old m1 m2 m3 mp1 mp2 mp3 _ _ _ _ _ _ _ _ _ _ _ _ _ _ so sc sn K1 K2 K0 HXR HR HE K3 K4 K5 Hp Ht2 hi HB HS K ?_; unfold Hid; intros; rename_i hr; (refine HK.out _ _ _ _ _ _ _ _ _ _ _ _ _ _ _ _ _ _ _ _ _ _ _ _ _ _ _ _ _ _ _ _ _ _ _ _ _ _ _ _ _ _ _ _ _ _ _ _ _ _ _ _ _ _ _ _ _ _ _ _ _ _ _ _ _ _ _ _ _ _ _ _ _ _ _ _ _ _ _ _ _ _ _ _ _ _ _ _ _ _ _ _ _ _ _ _ _ _ _ _ _ _ _ _ _ _ _ _ _ _ _ _ _ _ _ _ _ _ _ _ _ _ _ _ _ _ _ _ _ _ _ _ _ _ _ _ _ _ _ _ _ _ _ _ _ _ _ _ _ _ _ _ _ _ ?_; exact hr); done) | go_step)
end Go.Proofs.Ytjlhlmnoomiblaa
