/-
  TrackExact: the law: the loop over what was known. TrackExact: the law: what the program began with is written over. TrackExact: the law: commits, who is alive, rounds; all is held. TrackExact: the law: what is made first; the whole walk.
-/
import Derived.Test.YtgdmcbjlfnjhjaaTyb
import Derived.Deep.DeepCutAuto
import Derived.Deep.CutRange
import Derived.BigQuiet
import Derived.Lib.QuietBelow
import Derived.Test.YtgdmcbjlfnjhjaaTrj
import Derived.Test.YtgdmcbjlfnjhjaaTcn
import Derived.Test.YtgdmcbjlfnjhjaaHeo
namespace Go.Proofs.Ytgdmcbjlfnjhjaa
open Go.RowKit Wm Mm Lg
set_option linter.unusedVariables false
set_option linter.unusedSimpArgs false

set_option maxHeartbeats 4000000 in
set_option maxRecDepth 100000 in
theorem track_loop {v0 v2 v3 v6 v7 v8 v9 v11 v12 v13 v14 v15 v16 v17 v19 v20 v22 v24 v31 v32 v33 v34 v35 v36 v37 v38 v39 v40 v41 v42 v43 v44 v45 v46 v47 v48 v49 v50 v51 v52 v53 v54 v55 v56 v57 v58 v59 v60 v61 v62 v63 v64 v65 v66 v67 v68 v69 v70 v71 v72 v73 v74 v75 v76 v77 v78 v79 v80 v81 v82 v83 v84 v85 v86 v87 v88 v89 v90 v91 v92 v93 v94 v95 v96 v97 v98 v99 v100 v101 v102 v103 v104 v105 v106 v107 v108 v109 v110 v111 v112 v113 v114 v115 v116 v117 v118 v119 v120 v121 v122 v123 v124 v125 v126 v127 v128 v129 v130 v131 v132 v133 v134 v135 v136 v137 v138 v139 v140 v141 v142 v143 v144 v145 v146 v147 v148 v149 v150 v151 v152 v153 v154 v155 v156 v157 v158 v159 v160 v161 v162 v163 v164 v165 v166 v167 v168 v169 v170 v171 v172 v173 v174 v175 v176 v177 v178 v179 v180 v181 v182 v183 v184 v185 v186 v187 v188 v189 v190 v191 v192 v193 v194 v195 v196 v197 v198 v199 v200 v201 v202 v203 v204 v205 v206 v207 v208 v209 v210 v211 v212 v213 v214 v215 v216 v217 v218 v219 v220 v221 v222 v223 v224 v225 v226 v227 v228 v229 v230 v231 v232 v233 v234 v235 v236 v237 v238 v239 v240 v241 v242 v243 v244 v245 v246 v247 v248 v249 v250 v251 v252 v253 v254 v255 v256 v257 v258 v259 v260 v261 v262 v263 v264 v265 v266 v267 v268 v269 v270 v271 v272 v273 v274 v275 v276 v277 v278 v279 v280 v281 v282 v283 v284 v285 v286 v287 v288 v289 v290 v291 v292 v293 v294 v295 v296 v297 v298 v299 v300 v301 v302 v303 v304 v305 v306 v307 v308 v309 v310 v311 v312 v313 v314 v315 v316 v317 v318 v319 v320 v321 v322 v323 v324 v325 v326 v327 v328 v329 v330 v331 v332 v333 v334 v335 v336 v337 v338 v339 v340 v341 v342 v343 v344 v345 : Value} (L Z : Nat) (ev : Value) (es : List EntP) (known : List ProgP) (kv xv : Value) (base bt : Int) (zo : Option Addr) (zc : Nat) (hkn : known.length ≤ 2932031007317)
(W : World) (post : Ending → World → Prop) (HP : Hid (∀ w', Below W.heap.size W w' → post (.returned (.bool true)) w')) (HX : Hid (∀ w', Below W.heap.size W w' → Tf2 L Z ev es known kv xv base bt zo zc w'))
    (index hint : Int) (hix : (-9223372036854775808 : Int) ≤ index ∧ index ≤ 9223372036854775807) (hrange : ∀ p ∈ known, ((-9223372036854775808 : Int) ≤ p.mtch ∧ p.mtch ≤ 9223372036854775807) ∧ (-9223372036854775808 : Int) ≤ p.nxt ∧ p.nxt ≤ 9223372036854775807) (hok : Hid (Ok base es)) :
    Code.wp Try.prog ((Try.f5.body.bind (seqAt 26)).getD .skip) (bodyPost Try.prog Try.f5 post) ⟨#[v0, kv, v2, v3, .int .i64 index, .int .i64 hint, v6, v7, v8, v9, .pointer (some ⟨L, 0, none⟩), v11, v12, v13, v14, v15, v16, v17, xv, v19, v20, .bool true, v22, .pointer (some ⟨Z, 0, none⟩), v24, .bool true, .bool true, .bool true, .bool true, .bool true, .bool true, v31, v32, v33, v34, v35, v36, v37, v38, v39, v40, v41, v42, v43, v44, v45, v46, v47, v48, v49, v50, v51, v52, v53, v54, v55, v56, v57, v58, v59, v60, v61, v62, v63, v64, v65, v66, v67, v68, v69, v70, v71, v72, v73, v74, v75, v76, v77, v78, v79, v80, v81, v82, v83, v84, v85, v86, v87, v88, v89, v90, v91, v92, v93, v94, v95, v96, v97, v98, v99, v100, v101, v102, v103, v104, v105, v106, v107, v108, v109, v110, v111, v112, v113, v114, v115, v116, v117, v118, v119, v120, v121, v122, v123, v124, v125, v126, v127, v128, v129, v130, v131, v132, v133, v134, v135, v136, v137, v138, v139, v140, v141, v142, v143, v144, v145, v146, v147, v148, v149, v150, v151, v152, v153, v154, v155, v156, v157, v158, v159, v160, v161, v162, v163, v164, v165, v166, v167, v168, v169, v170, v171, v172, v173, v174, v175, v176, v177, v178, v179, v180, v181, v182, v183, v184, v185, v186, v187, v188, v189, v190, v191, v192, v193, v194, v195, v196, v197, v198, v199, v200, v201, v202, v203, v204, v205, v206, v207, v208, v209, v210, v211, v212, v213, v214, v215, v216, v217, v218, v219, v220, v221, v222, v223, v224, v225, v226, v227, v228, v229, v230, v231, v232, v233, v234, v235, v236, v237, v238, v239, v240, v241, v242, v243, v244, v245, v246, v247, v248, v249, v250, v251, v252, v253, v254, v255, v256, v257, v258, v259, v260, v261, v262, v263, v264, v265, v266, v267, v268, v269, v270, v271, v272, v273, v274, v275, v276, v277, v278, v279, v280, v281, v282, v283, v284, v285, v286, v287, v288, v289, v290, v291, v292, v293, v294, v295, v296, v297, v298, v299, v300, v301, v302, v303, v304, v305, v306, v307, v308, v309, v310, v311, v312, v313, v314, v315, v316, v317, v318, v319, v320, v321, v322, v323, v324, v325, v326, v327, v328, v329, v330, v331, v332, v333, v334, v335, v336, v337, v338, v339, v340, v341, v342, v343, v344, v345], []⟩ W := by
  conv => arg 2; whnf
  obtain ⟨ko, kcap, rfl, _, _⟩ := (HX.out _ (Below.refl _ _)).kn.slice
  go_wp2_with fail
  go_loopw [32] (fun c32 wr => ∃ k : Nat, c32 = .int .i64 (k : Int) ∧ k ≤ known.length ∧ Hid (Below W.heap.size W wr)) (fun i _ => known.length - (intOf i).toNat)
  case atStart => exact ⟨0, rfl, Nat.zero_le _, Below.refl _ _⟩
  case round =>
    rename_i K1 hK1
    obtain ⟨k, rfl, hk, HB⟩ := hrel
    by_cases hlt : k < known.length
    · have HKN : Hid (∀ w', Below W.heap.size W w' → Prgs (fun _ => True) w' (.slice ko known.length kcap) known) := fun w' h => (HX.out _ h).kn
      have Hr := Lib.hid (hrange known[k] (List.getElem_mem hlt))
      obtain ⟨b, off, rfl, -, -, -, -, -, -⟩ := (HKN.out _ HB.out).six hlt
      have HM : Hid (∀ w', Below W.heap.size W w' → w'.cell? ⟨b, off + k * 6, none⟩ = some (.int .i64 known[k].node) ∧ w'.cell? ⟨b, off + k * 6 + 1, none⟩ = some (.int .i64 known[k].mtch) ∧ w'.cell? ⟨b, off + k * 6 + 2, none⟩ = some (.int .i64 known[k].nxt) ∧ w'.cell? ⟨b, off + k * 6 + 3, none⟩ = some (.int .i64 known[k].state) ∧ w'.cell? ⟨b, off + k * 6 + 4, none⟩ = some (.bool known[k].active) ∧ w'.cell? ⟨b, off + k * 6 + 5, none⟩ = some (.int .i64 known[k].heard)) := by
        show ∀ w', _ → _
        intro w' hw
        obtain ⟨b2, off2, he, h0, h1, h2, h3, h4, h5⟩ := (HKN.out _ hw).six hlt
        injection he with he
        injection he with e1 e2
        subst e1; subst e2
        exact ⟨h0, h1, h2, h3, h4, h5⟩
      obtain ⟨p, hp⟩ := hide known[k]
      rw [hp.out] at HM Hr
      clear hp
      have hk1 : k < 2932031007318 := by omega
      obtain ⟨V0, hV0⟩ : ∃ V, V = wr := ⟨_, rfl⟩
      subst hV0
      obtain ⟨m0, m1, m2, m3, m4, m5⟩ := HM.out _ HB.out
      obtain ⟨z1, hz1⟩ := hide (decide (1099511627775 < index))
      obtain ⟨z2, hz2⟩ := hide (decide (1099511627775 < p.mtch))
      obtain ⟨z3, hz3⟩ := hide (decide (1099511627775 < p.nxt))
      have t1 := hz1.out
      have t2 := hz2.out
      have t3 := hz3.out
      by_cases hz : (z1 || (z2 || z3)) = true
      · cases z1 <;> cases z2 <;> cases z3
        all_goals
          first
          | (exfalso; simp at hz; done)
          | (go_wp2_with fail
             go_roundw
             case rel => exact ⟨k + 1, by go_num, hlt, HB⟩
             case measure => simp [intOf]; omega
            )
      · obtain ⟨rfl, rfl, rfl⟩ : z1 = false ∧ z2 = false ∧ z3 = false := by cases z1 <;> cases z2 <;> cases z3 <;> simp_all
        have hi1 : index ≤ 1099511627775 := by have := of_decide_eq_false t1; omega
        have hm1 : p.mtch ≤ 1099511627775 := by have := of_decide_eq_false t2; omega
        have hn1 : p.nxt ≤ 1099511627775 := by have := of_decide_eq_false t3; omega
        clear hz hz1 hz2 hz3
        have K := Lib.hid (ack_exact p index V0)
        have Ki : Hid (index ≤ 1099511627775 ∧ p.mtch ≤ 1099511627775 ∧ p.nxt ≤ 1099511627775) := ⟨hi1, hm1, hn1⟩
        have KR : Hid (∀ w', Calls Try.prog 40 #[.agg (arrG p), .int .i64 index] w' fun e w'' => e = .returned (.agg (arrG (ackE p index))) ∧ Below w'.heap.size w' w'') := fun w' => refAck_law p index w' ⟨Hr.out.1.1, hm1⟩ ⟨hix.1, hi1⟩
        obtain ⟨q, hq⟩ := hide (ackE p index)
        rw [hq.out] at K KR
        clear hq hi1 hm1 hn1
        go_upto_region 30 with fail
        clear t1 t2 t3
        go_wp2_with fail
        refine K.out.mono ?_
        rintro e w1 ⟨rfl, hb⟩
        have H1 : Hid (Below W.heap.size W w1) := HB.out.trans (hb.mono HB.out.size)
        clear hb K m0 m1 m2 m3 m4 m5
        dsimp only
        have ba : Below w1.heap.size w1 (w1.alloc (objG q)) := (Below.refl _ _).alloc (Nat.le_refl _) _
        have hxa : (w1.alloc (objG q)).heap[w1.heap.size]? = some (objG q) := hp_at _ _ rfl
        obtain ⟨V1, hV1⟩ := hide (w1.alloc (objG q))
        rw [hV1.out] at ba hxa
        obtain ⟨Q, hQ⟩ := hide w1.heap.size
        rw [hQ.out] at hxa
        have HV1 : Hid (Below W.heap.size W V1) := H1.out.trans (ba.mono H1.out.size)
        have HQ := Lib.hid hxa
        clear ba hxa
        go_upto_region 31 with fail
        rw [hV1.out, hQ.out]
        obtain ⟨m0, m1, m2, m3, m4, m5⟩ := HM.out _ HV1.out
        have K := Lib.hid (refuse_law p index hint V1 ⟨Hr.out.1.1, Ki.out.2.1⟩)
        have K2 : Hid (∀ w', Calls Try.prog 39 #[.agg (arrG p), .int .i64 index, .int .i64 hint] w' fun e w'' => e = .returned (.tuple #[.agg (arrG (refuseE p index hint).1), .bool (refuseE p index hint).2]) ∧ Below w'.heap.size w' w'') := fun w' => refRefuse_law p index hint w' ⟨Hr.out.1.1, Ki.out.2.1⟩
        obtain ⟨r, hr⟩ := hide (refuseE p index hint).1
        obtain ⟨y, hy⟩ := hide (refuseE p index hint).2
        rw [hr.out, hy.out] at K K2
        clear hr hy
        go_wp2_with fail
        refine K.out.mono ?_
        rintro e w2 ⟨rfl, hb⟩
        have H2 : Hid (Below V1.heap.size V1 w2) := hb
        clear hb K m0 m1 m2 m3 m4 m5
        dsimp only
        have ba : Below w2.heap.size w2 (w2.alloc (objG r)) := (Below.refl _ _).alloc (Nat.le_refl _) _
        have hxa : (w2.alloc (objG r)).heap[w2.heap.size]? = some (objG r) := hp_at _ _ rfl
        obtain ⟨V2, hV2⟩ := hide (w2.alloc (objG r))
        rw [hV2.out] at ba hxa
        obtain ⟨R, hR⟩ := hide w2.heap.size
        rw [hR.out] at hxa
        have HV2 : Hid (Below V1.heap.size V1 V2) := H2.out.trans (ba.mono H2.out.size)
        have HW2 : Hid (Below W.heap.size W V2) := HV1.out.trans (HV2.out.mono HV1.out.size)
        have HR := Lib.hid hxa
        clear ba hxa
        go_upto_region 32 with fail
        rw [hV2.out, hR.out]
        obtain ⟨m0, m1, m2, m3, m4, m5⟩ := HM.out _ HW2.out
        have K := Lib.hid (K2.out V2)
        go_wp2_with fail
        refine K.out.mono ?_
        rintro e w3 ⟨rfl, hb⟩
        have H3 : Hid (Below V2.heap.size V2 w3) := hb
        clear hb K K2 m0 m1 m2 m3 m4 m5
        dsimp only
        have ba : Below w3.heap.size w3 (w3.alloc (objG r)) := (Below.refl _ _).alloc (Nat.le_refl _) _
        have hxa : (w3.alloc (objG r)).heap[w3.heap.size]? = some (objG r) := hp_at _ _ rfl
        obtain ⟨V3, hV3⟩ := hide (w3.alloc (objG r))
        rw [hV3.out] at ba hxa
        obtain ⟨T, hT⟩ := hide w3.heap.size
        rw [hT.out] at hxa
        have HV3 : Hid (Below V2.heap.size V2 V3) := H3.out.trans (ba.mono H3.out.size)
        have HW3 : Hid (Below W.heap.size W V3) := HW2.out.trans (HV3.out.mono HW2.out.size)
        have HTT := Lib.hid hxa
        clear ba hxa
        go_upto_region 33 with fail
        rw [hV3.out, hT.out]
        obtain ⟨x0, x1, x2, x3, x4, x5⟩ := HM.out _ HW3.out
        have hq3 : V3.heap[Q]? = some (objG q) := ((HV2.out.trans (HV3.out.mono HV2.out.size)).block Q (lt_of_block HQ.out)).trans HQ.out
        have hr3 : V3.heap[R]? = some (objG r) := (HV3.out.block R (lt_of_block HR.out)).trans HR.out
        have ht3 := HTT.out
        have m0 := fun (dd : Nat) (os : Array Obj) => cell_regrown x0 dd os
        have m1 := fun (dd : Nat) (os : Array Obj) => cell_regrown x1 dd os
        have m2 := fun (dd : Nat) (os : Array Obj) => cell_regrown x2 dd os
        have m3 := fun (dd : Nat) (os : Array Obj) => cell_regrown x3 dd os
        have m4 := fun (dd : Nat) (os : Array Obj) => cell_regrown x4 dd os
        have m5 := fun (dd : Nat) (os : Array Obj) => cell_regrown x5 dd os
        have q0 := fun (dd : Nat) (os : Array Obj) => cell_regrown (cell_n hq3 0 (v := .int .i64 q.node) rfl) dd os
        have q1 := fun (dd : Nat) (os : Array Obj) => cell_regrown (cell_n hq3 1 (v := .int .i64 q.mtch) rfl) dd os
        have q2 := fun (dd : Nat) (os : Array Obj) => cell_regrown (cell_n hq3 2 (v := .int .i64 q.nxt) rfl) dd os
        have q3 := fun (dd : Nat) (os : Array Obj) => cell_regrown (cell_n hq3 3 (v := .int .i64 q.state) rfl) dd os
        have q4 := fun (dd : Nat) (os : Array Obj) => cell_regrown (cell_n hq3 4 (v := .bool q.active) rfl) dd os
        have q5 := fun (dd : Nat) (os : Array Obj) => cell_regrown (cell_n hq3 5 (v := .int .i64 q.heard) rfl) dd os
        have r0 := fun (dd : Nat) (os : Array Obj) => cell_regrown (cell_n hr3 0 (v := .int .i64 r.node) rfl) dd os
        have r1 := fun (dd : Nat) (os : Array Obj) => cell_regrown (cell_n hr3 1 (v := .int .i64 r.mtch) rfl) dd os
        have r2 := fun (dd : Nat) (os : Array Obj) => cell_regrown (cell_n hr3 2 (v := .int .i64 r.nxt) rfl) dd os
        have r3 := fun (dd : Nat) (os : Array Obj) => cell_regrown (cell_n hr3 3 (v := .int .i64 r.state) rfl) dd os
        have r4 := fun (dd : Nat) (os : Array Obj) => cell_regrown (cell_n hr3 4 (v := .bool r.active) rfl) dd os
        have r5 := fun (dd : Nat) (os : Array Obj) => cell_regrown (cell_n hr3 5 (v := .int .i64 r.heard) rfl) dd os
        have s0 := fun (dd : Nat) (os : Array Obj) => cell_regrown (cell_n ht3 0 (v := .int .i64 r.node) rfl) dd os
        have s1 := fun (dd : Nat) (os : Array Obj) => cell_regrown (cell_n ht3 1 (v := .int .i64 r.mtch) rfl) dd os
        have s2 := fun (dd : Nat) (os : Array Obj) => cell_regrown (cell_n ht3 2 (v := .int .i64 r.nxt) rfl) dd os
        have s3 := fun (dd : Nat) (os : Array Obj) => cell_regrown (cell_n ht3 3 (v := .int .i64 r.state) rfl) dd os
        have s4 := fun (dd : Nat) (os : Array Obj) => cell_regrown (cell_n ht3 4 (v := .bool r.active) rfl) dd os
        have s5 := fun (dd : Nat) (os : Array Obj) => cell_regrown (cell_n ht3 5 (v := .int .i64 r.heard) rfl) dd os
        have HG : Hid (∀ (dd : Nat) (os : Array Obj), Below W.heap.size W (Sort.grow (redrawn V3 dd) os)) := fun dd os => HW3.out.trans ((below_regrown V3 dd os).mono HW3.out.size)
        clear x0 x1 x2 x3 x4 x5 hq3 hr3 ht3
        refine wp_region_quiet_below (by kernel_rfl) (by kernel_rfl) ?_
        repeat (go_big_quiet_step ((go_at_call 40; with_reducible refine Calls.regrown_of (KR.out _))))
        refine wpQuiet_nil ?_
        intro _ hw'
        obtain ⟨⟨dq, osq⟩, hw''⟩ := hw'
        subst hw''
        have HW4 := Lib.hid (HG.out dq osq)
        obtain ⟨V4, hV4⟩ : ∃ V, V = Sort.grow (redrawn V3 dq) osq := ⟨_, rfl⟩
        rw [← hV4] at HW4 ⊢
        clear hV4 HG
        clear m0 m1 m2 m3 m4 m5
        clear q0 q1 q2 q3 q4 q5
        clear r0 r1 r2 r3 r4 r5
        clear s0 s1 s2 s3 s4 s5
        iterate 12 (first | done | (refine piece_block (track_plans L Z ev es known (.slice (some ⟨b, off, none⟩) known.length kcap) xv base bt zo zc W HX hok b off known.length kcap k hlt hkn p Ki.out.2.2 HM V4 HW4 _ ?_); (unfold Hid; intros; rename_i HW5)) | go_step)
        go_wp2_with fail
        go_roundw
        case rel => exact ⟨k + 1, by go_num, hlt, HW5⟩
        case measure => simp [intOf]; omega
    · have t0 : decide (k < known.length) = false := decide_eq_false hlt
      clear hlt
      go_upto_if 158 with (fail)
      iterate 12 (first | done | (refine hK1 _ _ ?_; exact track_end L Z ev es known (.slice ko known.length kcap) xv base bt zo zc hkn wr post (fun w' h => HP.out w' (HB.out.trans (h.mono HB.out.size))) (fun w' h => HX.out w' (HB.out.trans (h.mono HB.out.size)))) | exact track_end L Z ev es known (.slice ko known.length kcap) xv base bt zo zc hkn wr post (fun w' h => HP.out w' (HB.out.trans (h.mono HB.out.size))) (fun w' h => HX.out w' (HB.out.trans (h.mono HB.out.size))) | go_step)
end Go.Proofs.Ytgdmcbjlfnjhjaa

namespace Go.Proofs.Ytgdmcbjlfnjhjaa
open Go.RowKit Wm Mm Lg
set_option linter.unusedVariables false
set_option linter.unusedSimpArgs false

set_option maxHeartbeats 4000000 in
set_option maxRecDepth 100000 in
theorem track_over {v0 v2 v3 v6 v7 v8 v9 v11 v12 v13 v14 v15 v16 v17 v19 v22 v24 v31 v32 v33 v34 v35 v36 v37 v38 v39 v40 v41 v42 v43 v44 v45 v46 v47 v48 v49 v50 v51 v52 v53 v54 v55 v56 v57 v58 v59 v60 v61 v62 v63 v64 v65 v66 v67 v68 v69 v70 v71 v72 v73 v74 v75 v76 v77 v78 v79 v80 v81 v82 v83 v84 v85 v86 v87 v88 v89 v90 v91 v92 v93 v94 v95 v96 v97 v98 v99 v100 v101 v102 v103 v104 v105 v106 v107 v108 v109 v110 v111 v112 v113 v114 v115 v116 v117 v118 v119 v120 v121 v122 v123 v124 v125 v126 v127 v128 v129 v130 v131 v132 v133 v134 v135 v136 v137 v138 v139 v140 v141 v142 v143 v144 v145 v146 v147 v148 v149 v150 v151 v152 v153 v154 v155 v156 v157 v158 v159 v160 v161 v162 v163 v164 v165 v166 v167 v168 v169 v170 v171 v172 v173 v174 v175 v176 v177 v178 v179 v180 v181 v182 v183 v184 v185 v186 v187 v188 v189 v190 v191 v192 v193 v194 v195 v196 v197 v198 v199 v200 v201 v202 v203 v204 v205 v206 v207 v208 v209 v210 v211 v212 v213 v214 v215 v216 v217 v218 v219 v220 v221 v222 v223 v224 v225 v226 v227 v228 v229 v230 v231 v232 v233 v234 v235 v236 v237 v238 v239 v240 v241 v242 v243 v244 v245 v246 v247 v248 v249 v250 v251 v252 v253 v254 v255 v256 v257 v258 v259 v260 v261 v262 v263 v264 v265 v266 v267 v268 v269 v270 v271 v272 v273 v274 v275 v276 v277 v278 v279 v280 v281 v282 v283 v284 v285 v286 v287 v288 v289 v290 v291 v292 v293 v294 v295 v296 v297 v298 v299 v300 v301 v302 v303 v304 v305 v306 v307 v308 v309 v310 v311 v312 v313 v314 v315 v316 v317 v318 v319 v320 v321 v322 v323 v324 v325 v326 v327 v328 v329 v330 v331 v332 v333 v334 v335 v336 v337 v338 v339 v340 v341 v342 v343 v344 v345 : Value} (L Z : Nat) (ev : Value) (es : List EntP) (known : List ProgP) (kv xv : Value) (base bt : Int) (zo : Option Addr) (zc : Nat) (hkn : known.length ≤ 2932031007317)
    (ap : Option Addr) (m ac S : Nat) (xs0 : List Value) (hm : m ≤ 1048576)
    (W : World) (hS : S ≤ W.heap.size) (Ho0 : Hid (W.ownsRow S 27 6 (.slice ap m ac) m xs0)) (post : Ending → World → Prop) (HP : Hid (∀ w', W.grownBy w' (Value.slice ap m ac).ownBlock → post (.returned (.bool true)) w')) (HX : Hid (∀ w', W.grownBy w' (Value.slice ap m ac).ownBlock → Tf2 L Z ev es known kv xv base bt zo zc w'))
    (index hint : Int) (hix : (-9223372036854775808 : Int) ≤ index ∧ index ≤ 9223372036854775807) (hrange : ∀ p ∈ known, ((-9223372036854775808 : Int) ≤ p.mtch ∧ p.mtch ≤ 9223372036854775807) ∧ (-9223372036854775808 : Int) ≤ p.nxt ∧ p.nxt ≤ 9223372036854775807) (hok : Hid (Ok base es)) :
    Code.wp Try.prog ((Try.f5.body.bind (seqAt 21)).getD .skip) (bodyPost Try.prog Try.f5 post) ⟨#[v0, kv, v2, v3, .int .i64 index, .int .i64 hint, v6, v7, v8, v9, .pointer (some ⟨L, 0, none⟩), v11, v12, v13, v14, v15, v16, v17, xv, v19, .slice ap m ac, .bool true, v22, .pointer (some ⟨Z, 0, none⟩), v24, .bool true, .bool true, .bool true, .bool true, .bool true, .bool true, v31, v32, v33, v34, v35, v36, v37, v38, v39, v40, v41, v42, v43, v44, v45, v46, v47, v48, v49, v50, v51, v52, v53, v54, v55, v56, v57, v58, v59, v60, v61, v62, v63, v64, v65, v66, v67, v68, v69, v70, v71, v72, v73, v74, v75, v76, v77, v78, v79, v80, v81, v82, v83, v84, v85, v86, v87, v88, v89, v90, v91, v92, v93, v94, v95, v96, v97, v98, v99, v100, v101, v102, v103, v104, v105, v106, v107, v108, v109, v110, v111, v112, v113, v114, v115, v116, v117, v118, v119, v120, v121, v122, v123, v124, v125, v126, v127, v128, v129, v130, v131, v132, v133, v134, v135, v136, v137, v138, v139, v140, v141, v142, v143, v144, v145, v146, v147, v148, v149, v150, v151, v152, v153, v154, v155, v156, v157, v158, v159, v160, v161, v162, v163, v164, v165, v166, v167, v168, v169, v170, v171, v172, v173, v174, v175, v176, v177, v178, v179, v180, v181, v182, v183, v184, v185, v186, v187, v188, v189, v190, v191, v192, v193, v194, v195, v196, v197, v198, v199, v200, v201, v202, v203, v204, v205, v206, v207, v208, v209, v210, v211, v212, v213, v214, v215, v216, v217, v218, v219, v220, v221, v222, v223, v224, v225, v226, v227, v228, v229, v230, v231, v232, v233, v234, v235, v236, v237, v238, v239, v240, v241, v242, v243, v244, v245, v246, v247, v248, v249, v250, v251, v252, v253, v254, v255, v256, v257, v258, v259, v260, v261, v262, v263, v264, v265, v266, v267, v268, v269, v270, v271, v272, v273, v274, v275, v276, v277, v278, v279, v280, v281, v282, v283, v284, v285, v286, v287, v288, v289, v290, v291, v292, v293, v294, v295, v296, v297, v298, v299, v300, v301, v302, v303, v304, v305, v306, v307, v308, v309, v310, v311, v312, v313, v314, v315, v316, v317, v318, v319, v320, v321, v322, v323, v324, v325, v326, v327, v328, v329, v330, v331, v332, v333, v334, v335, v336, v337, v338, v339, v340, v341, v342, v343, v344, v345], []⟩ W := by
  conv => arg 2; whnf
  have G0 : Hid (W.grownBy W (Value.slice ap m ac).ownBlock) := ⟨rfl, rfl, rfl, Nat.le_refl _, fun _ _ _ => rfl⟩
  go_wp2_with fail
  go_loopw [31] (fun c31 wr => ∃ k : Nat, ∃ ys : List Value, c31 = .int .i64 (k : Int) ∧ k ≤ m ∧ Hid (wr.ownsRow S 27 6 (.slice ap m ac) m ys) ∧ Hid (W.grownBy wr (Value.slice ap m ac).ownBlock)) (fun i _ => m - (intOf i).toNat)
  case atStart => exact ⟨0, xs0, rfl, Nat.zero_le _, Ho0, G0⟩
  case round =>
    rename_i K1 hK1
    obtain ⟨k, ys, rfl, hk, ho, hg⟩ := hrel
    by_cases hlt : k < m
    · obtain ⟨g, hao⟩ : ∃ g, ap = some ⟨g, 0, none⟩ := by
        rcases ho.out.2 with ⟨hv, h0⟩ | ⟨g', cap', cur, hv, _⟩
        · omega
        · injection hv with e1; exact ⟨g', e1⟩
      subst hao
      have hl := ho.out.1
      have u0 := own_cell ho.out (i := k * 6) (List.getElem?_eq_getElem (by omega))
      have u1 := own_cell ho.out (i := k * 6 + 1) (List.getElem?_eq_getElem (by omega))
      have u2 := own_cell ho.out (i := k * 6 + 2) (List.getElem?_eq_getElem (by omega))
      have u3 := own_cell ho.out (i := k * 6 + 3) (List.getElem?_eq_getElem (by omega))
      have u4 := own_cell ho.out (i := k * 6 + 4) (List.getElem?_eq_getElem (by omega))
      have u5 := own_cell ho.out (i := k * 6 + 5) (List.getElem?_eq_getElem (by omega))
      have f0 := own_free ho.out (k * 6)
      have f1 := own_free ho.out (k * 6 + 1)
      have f2 := own_free ho.out (k * 6 + 2)
      have f3 := own_free ho.out (k * 6 + 3)
      have f4 := own_free ho.out (k * 6 + 4)
      have f5 := own_free ho.out (k * 6 + 5)
      obtain ⟨y0, hy0⟩ := hide (ys[k * 6]'(by omega))
      obtain ⟨y1, hy1⟩ := hide (ys[k * 6 + 1]'(by omega))
      obtain ⟨y2, hy2⟩ := hide (ys[k * 6 + 2]'(by omega))
      obtain ⟨y3, hy3⟩ := hide (ys[k * 6 + 3]'(by omega))
      obtain ⟨y4, hy4⟩ := hide (ys[k * 6 + 4]'(by omega))
      obtain ⟨y5, hy5⟩ := hide (ys[k * 6 + 5]'(by omega))
      rw [hy0.out] at u0
      rw [hy1.out] at u1
      rw [hy2.out] at u2
      rw [hy3.out] at u3
      rw [hy4.out] at u4
      rw [hy5.out] at u5
      have Ho2 := Lib.hid (own_put (own_put (own_put (own_put (own_put (own_put ho.out (k * 6) (.int .i64 (-7))) (k * 6 + 1) (.int .i64 0)) (k * 6 + 2) (.int .i64 0)) (k * 6 + 3) (.int .i64 0)) (k * 6 + 4) (.bool false)) (k * 6 + 5) (.int .i64 0))
      have Hg2 := Lib.hid (grown_trans (grown_trans (grown_trans (grown_trans (grown_trans (grown_trans hg.out (grown_setCell wr ⟨g, k * 6, none⟩ (.int .i64 (-7)))) (grown_setCell _ ⟨g, k * 6 + 1, none⟩ (.int .i64 0))) (grown_setCell _ ⟨g, k * 6 + 2, none⟩ (.int .i64 0))) (grown_setCell _ ⟨g, k * 6 + 3, none⟩ (.int .i64 0))) (grown_setCell _ ⟨g, k * 6 + 4, none⟩ (.bool false))) (grown_setCell _ ⟨g, k * 6 + 5, none⟩ (.int .i64 0)))
      clear hy0 hy1 hy2 hy3 hy4 hy5
      go_wp2_with fail
      go_roundw
      case rel => exact ⟨k + 1, _, by go_num, hlt, Ho2, Hg2⟩
      case measure => simp [intOf]; omega
    · have t0 : decide (k < m) = false := decide_eq_false hlt
      have hBs : S ≤ wr.heap.size := Nat.le_trans hS hg.out.size
      clear hlt
      go_upto_if 144 with (fail)
      iterate 8 (first | done | (refine hK1 _ _ ?_; go_upto_region 25 with fail; rename_i K2 hK2) | go_step)
      go_wp2_with (at_builtin; refine wpList_push rfl _ _ 28 rfl S 27 _ 6 48 Try.underlying28 info_prg rfl (by decide) _ _ _ rfl ho.out _ rfl rfl (by intro u hu; simp at hu; rcases hu with rfl | rfl | rfl | rfl | rfl | rfl <;> rfl) (by unfold maxLen; omega) (by omega) hBs ?_)
      intro v' w2 _ hg2
      have Hg3 := Lib.hid (grown_trans hg.out hg2)
      clear hg2
      iterate 12 (first | done | (refine hK2 _ _ ?_; exact track_loop L Z ev es known kv xv base bt zo zc hkn w2 post (fun w' h => HP.out w' (grown_trans Hg3.out (Mm.below_grown h _))) (fun w' h => HX.out w' (grown_trans Hg3.out (Mm.below_grown h _))) index hint hix hrange hok) | exact track_loop L Z ev es known kv xv base bt zo zc hkn w2 post (fun w' h => HP.out w' (grown_trans Hg3.out (Mm.below_grown h _))) (fun w' h => HX.out w' (grown_trans Hg3.out (Mm.below_grown h _))) index hint hix hrange hok | go_step)
end Go.Proofs.Ytgdmcbjlfnjhjaa

namespace Go.Proofs.Ytgdmcbjlfnjhjaa
open Go.RowKit Wm Mm Lg
set_option linter.unusedVariables false
set_option linter.unusedSimpArgs false

/-- what the law goes on from ahead of the overwriting -/
structure Tf3 (B D : Nat) (a0 b0 d0 xa xb xd bv yv : Value) (c : Conf) (ps : List ProgP) (L Z : Nat) (ev : Value) (es : List EntP) (known : List ProgP) (kv xv : Value) (base bt : Int) (zo : Option Addr) (zc : Nat) (w : World) : Prop where
  t : Tf2 L Z ev es known kv xv base bt zo zc w
  b : w.heap[B]? = some (.cells #[a0, b0, d0] 25 (0, 0))
  cb : Config3 w a0 b0 d0 c
  d : w.heap[D]? = some (.cells #[xa, xb, xd] 25 (0, 0))
  cd : Config3H 0 w xa xb xd c
  bb : Prgs (fun _ => True) w bv ps
  y : Prgs (fun _ => True) w yv ps ∧ HeldG 0 w yv ps
set_option maxHeartbeats 4000000 in
set_option maxRecDepth 100000 in
theorem track_three {v0 v3 v8 v9 v11 v12 v13 v14 v15 v16 v17 v25 v26 v27 v28 v29 v30 v31 v32 v33 v34 v35 v36 v37 v38 v39 v40 v41 v42 v43 v44 v45 v46 v47 v48 v49 v50 v51 v52 v53 v54 v55 v56 v57 v58 v59 v60 v61 v62 v63 v64 v65 v66 v67 v68 v69 v70 v71 v72 v73 v74 v75 v76 v77 v78 v79 v80 v81 v82 v83 v84 v85 v86 v87 v88 v89 v90 v91 v92 v93 v94 v95 v96 v97 v98 v99 v100 v101 v102 v103 v104 v105 v106 v107 v108 v109 v110 v111 v112 v113 v114 v115 v116 v117 v118 v119 v120 v121 v122 v123 v124 v125 v126 v127 v128 v129 v130 v131 v132 v133 v134 v135 v136 v137 v138 v139 v140 v141 v142 v143 v144 v145 v146 v147 v148 v149 v150 v151 v152 v153 v154 v155 v156 v157 v158 v159 v160 v161 v162 v163 v164 v165 v166 v167 v168 v169 v170 v171 v172 v173 v174 v175 v176 v177 v178 v179 v180 v181 v182 v183 v184 v185 v186 v187 v188 v189 v190 v191 v192 v193 v194 v195 v196 v197 v198 v199 v200 v201 v202 v203 v204 v205 v206 v207 v208 v209 v210 v211 v212 v213 v214 v215 v216 v217 v218 v219 v220 v221 v222 v223 v224 v225 v226 v227 v228 v229 v230 v231 v232 v233 v234 v235 v236 v237 v238 v239 v240 v241 v242 v243 v244 v245 v246 v247 v248 v249 v250 v251 v252 v253 v254 v255 v256 v257 v258 v259 v260 v261 v262 v263 v264 v265 v266 v267 v268 v269 v270 v271 v272 v273 v274 v275 v276 v277 v278 v279 v280 v281 v282 v283 v284 v285 v286 v287 v288 v289 v290 v291 v292 v293 v294 v295 v296 v297 v298 v299 v300 v301 v302 v303 v304 v305 v306 v307 v308 v309 v310 v311 v312 v313 v314 v315 v316 v317 v318 v319 v320 v321 v322 v323 v324 v325 v326 v327 v328 v329 v330 v331 v332 v333 v334 v335 v336 v337 v338 v339 v340 v341 v342 v343 v344 v345 : Value} (B D : Nat) (a0 b0 d0 xa xb xd bv yv : Value) (c : Conf) (ps : List ProgP) (L Z : Nat) (ev : Value) (es : List EntP) (known : List ProgP) (kv xv : Value) (base bt : Int) (zo : Option Addr) (zc : Nat) (hkn : known.length ≤ 2932031007317)
    (hc1 : c.v.length ≤ 1048576) (hc2 : c.n.length ≤ 1048576) (hc3 : c.l.length ≤ 1048576) (hps : ps.length ≤ 1048575)
    (ap : Option Addr) (m ac S : Nat) (xs0 : List Value) (hm : m ≤ 1048576)
    (W : World) (hS : S ≤ W.heap.size) (Ho0 : Hid (W.ownsRow S 27 6 (.slice ap m ac) m xs0)) (post : Ending → World → Prop) (HP : Hid (∀ w', W.grownBy w' (Value.slice ap m ac).ownBlock → post (.returned (.bool true)) w')) (HX : Hid (∀ w', W.grownBy w' (Value.slice ap m ac).ownBlock → Tf2 L Z ev es known kv xv base bt zo zc w')) (HX3 : Hid (∀ w', Below W.heap.size W w' → Tf3 B D a0 b0 d0 xa xb xd bv yv c ps L Z ev es known kv xv base bt zo zc w'))
    (self index hint term : Int) (hix : (-9223372036854775808 : Int) ≤ index ∧ index ≤ 9223372036854775807) (hrange : ∀ p ∈ known, ((-9223372036854775808 : Int) ≤ p.mtch ∧ p.mtch ≤ 9223372036854775807) ∧ (-9223372036854775808 : Int) ≤ p.nxt ∧ p.nxt ≤ 9223372036854775807) (hok : Hid (Ok base es)) :
    Code.wp Try.prog ((Try.f5.body.bind (seqAt 15)).getD .skip) (bodyPost Try.prog Try.f5 post) ⟨#[v0, kv, .int .i64 self, v3, .int .i64 index, .int .i64 hint, .int .i64 term, .pointer (some ⟨B, 0, none⟩), v8, v9, .pointer (some ⟨L, 0, none⟩), v11, v12, v13, v14, v15, v16, v17, xv, bv, .slice ap m ac, .bool true, yv, .pointer (some ⟨Z, 0, none⟩), .pointer (some ⟨D, 0, none⟩), v25, v26, v27, v28, v29, v30, v31, v32, v33, v34, v35, v36, v37, v38, v39, v40, v41, v42, v43, v44, v45, v46, v47, v48, v49, v50, v51, v52, v53, v54, v55, v56, v57, v58, v59, v60, v61, v62, v63, v64, v65, v66, v67, v68, v69, v70, v71, v72, v73, v74, v75, v76, v77, v78, v79, v80, v81, v82, v83, v84, v85, v86, v87, v88, v89, v90, v91, v92, v93, v94, v95, v96, v97, v98, v99, v100, v101, v102, v103, v104, v105, v106, v107, v108, v109, v110, v111, v112, v113, v114, v115, v116, v117, v118, v119, v120, v121, v122, v123, v124, v125, v126, v127, v128, v129, v130, v131, v132, v133, v134, v135, v136, v137, v138, v139, v140, v141, v142, v143, v144, v145, v146, v147, v148, v149, v150, v151, v152, v153, v154, v155, v156, v157, v158, v159, v160, v161, v162, v163, v164, v165, v166, v167, v168, v169, v170, v171, v172, v173, v174, v175, v176, v177, v178, v179, v180, v181, v182, v183, v184, v185, v186, v187, v188, v189, v190, v191, v192, v193, v194, v195, v196, v197, v198, v199, v200, v201, v202, v203, v204, v205, v206, v207, v208, v209, v210, v211, v212, v213, v214, v215, v216, v217, v218, v219, v220, v221, v222, v223, v224, v225, v226, v227, v228, v229, v230, v231, v232, v233, v234, v235, v236, v237, v238, v239, v240, v241, v242, v243, v244, v245, v246, v247, v248, v249, v250, v251, v252, v253, v254, v255, v256, v257, v258, v259, v260, v261, v262, v263, v264, v265, v266, v267, v268, v269, v270, v271, v272, v273, v274, v275, v276, v277, v278, v279, v280, v281, v282, v283, v284, v285, v286, v287, v288, v289, v290, v291, v292, v293, v294, v295, v296, v297, v298, v299, v300, v301, v302, v303, v304, v305, v306, v307, v308, v309, v310, v311, v312, v313, v314, v315, v316, v317, v318, v319, v320, v321, v322, v323, v324, v325, v326, v327, v328, v329, v330, v331, v332, v333, v334, v335, v336, v337, v338, v339, v340, v341, v342, v343, v344, v345], []⟩ W := by
  conv => arg 2; whnf
  have H0 : Hid (Below W.heap.size W W) := Below.refl _ _
  have K1 : Hid (∀ w', Below W.heap.size W w' → Calls Try.prog 7 #[.agg #[xa, xb, xd], yv, vLog base bt (.slice zo es.length zc), .int .i64 term, .int .i64 base] w' fun e w'' => e = .returned (.int .i64 (commitP c ps es base term)) ∧ Below w'.heap.size w' w'') := fun w' h => commitB_law xa xb xd yv _ c ps es _ _ base bt term w' (HX3.out _ h).cd.conf hc1 hc2 (HX3.out _ h).y.1 (by omega) (HX3.out _ h).t.zt hok.out
  have K2 : Hid (∀ w', Below W.heap.size W w' → Calls Try.prog 30 #[.agg #[a0, b0, d0], bv, vLog base bt ev, .int .i64 term, .int .i64 base] w' fun e w'' => e = .returned (.int .i64 (commitP c ps es base term)) ∧ Below w'.heap.size w' w'') := fun w' h => refCommit_law a0 b0 d0 bv ev c ps es _ _ base bt term w' (HX3.out _ h).cb hc1 hc2 (HX3.out _ h).bb (by omega) (HX3.out _ h).t.le hok.out
  obtain ⟨r1, hr1⟩ := hide (commitP c ps es base term)
  rw [hr1.out] at K1 K2
  have e1 : (r1 == r1) = true := beq_self_eq_true _
  clear hr1
  have q0 : W.cell? ⟨D, 0, none⟩ = some (xa) := cell_n (HX3.out _ H0.out).d 0 rfl
  have q1 : W.cell? ⟨D, 1, none⟩ = some (xb) := cell_n (HX3.out _ H0.out).d 1 rfl
  have q2 : W.cell? ⟨D, 2, none⟩ = some (xd) := cell_n (HX3.out _ H0.out).d 2 rfl
  have p0 : W.cell? ⟨B, 0, none⟩ = some (a0) := cell_n (HX3.out _ H0.out).b 0 rfl
  have p1 : W.cell? ⟨B, 1, none⟩ = some (b0) := cell_n (HX3.out _ H0.out).b 1 rfl
  have p2 : W.cell? ⟨B, 2, none⟩ = some (d0) := cell_n (HX3.out _ H0.out).b 2 rfl
  have l0 : W.cell? ⟨L, 0, none⟩ = some (.int .i64 base) := cell_n (HX3.out _ H0.out).t.lg 0 rfl
  have l1 : W.cell? ⟨L, 1, none⟩ = some (.int .i64 bt) := cell_n (HX3.out _ H0.out).t.lg 1 rfl
  have l2 : W.cell? ⟨L, 2, none⟩ = some (ev) := cell_n (HX3.out _ H0.out).t.lg 2 rfl
  have z0 : W.cell? ⟨Z, 0, none⟩ = some (.int .i64 base) := cell_n (HX3.out _ H0.out).t.z 0 rfl
  have z1 : W.cell? ⟨Z, 1, none⟩ = some (.int .i64 bt) := cell_n (HX3.out _ H0.out).t.z 1 rfl
  have z2 : W.cell? ⟨Z, 2, none⟩ = some (.slice zo es.length zc) := cell_n (HX3.out _ H0.out).t.z 2 rfl
  have s0 := fun (dd : Nat) (os : Array Obj) => cell_regrown q0 dd os
  have s1 := fun (dd : Nat) (os : Array Obj) => cell_regrown q1 dd os
  have s2 := fun (dd : Nat) (os : Array Obj) => cell_regrown q2 dd os
  have r0 := fun (dd : Nat) (os : Array Obj) => cell_regrown p0 dd os
  have r1 := fun (dd : Nat) (os : Array Obj) => cell_regrown p1 dd os
  have r2 := fun (dd : Nat) (os : Array Obj) => cell_regrown p2 dd os
  have k0 := fun (dd : Nat) (os : Array Obj) => cell_regrown l0 dd os
  have k1 := fun (dd : Nat) (os : Array Obj) => cell_regrown l1 dd os
  have k2 := fun (dd : Nat) (os : Array Obj) => cell_regrown l2 dd os
  have y0 := fun (dd : Nat) (os : Array Obj) => cell_regrown z0 dd os
  have y1 := fun (dd : Nat) (os : Array Obj) => cell_regrown z1 dd os
  have y2 := fun (dd : Nat) (os : Array Obj) => cell_regrown z2 dd os
  clear q0 q1 q2 p0 p1 p2 l0 l1 l2 z0 z1 z2
  have HG : Hid (∀ (dd : Nat) (os : Array Obj), Below W.heap.size W (Sort.grow (redrawn W dd) os)) := fun dd os => H0.out.trans ((below_regrown W dd os).mono H0.out.size)
  go_upto_region 15 with fail
  try dsimp only
  refine wp_region_quiet_below (by kernel_rfl) (by kernel_rfl) ?_
  repeat (go_big_quiet_step (first | (go_at_call 7; with_reducible refine Calls.regrown_of (K1.out _ (HG.out _ _))) | (go_at_call 30; with_reducible refine Calls.regrown_of (K2.out _ (HG.out _ _)))))
  refine wpQuiet_nil ?_
  intro _ hw'
  obtain ⟨⟨dq, osq⟩, hw''⟩ := hw'
  subst hw''
  have H1 := Lib.hid (HG.out dq osq)
  obtain ⟨V1, hV1⟩ : ∃ U, U = Sort.grow (redrawn W dq) osq := ⟨_, rfl⟩
  rw [← hV1] at H1 ⊢
  clear hV1 HG s0 s1 s2 r0 r1 r2 k0 k1 k2 y0 y1 y2
  clear K1 K2 e1
  have K1 : Hid (∀ w', Below W.heap.size W w' → Calls Try.prog 31 #[.agg #[xa, xb, xd], yv, .int .i64 self] w' fun e w'' => e = .returned (.bool (quorumB c (haveBy (aliveB self) ps))) ∧ Below w'.heap.size w' w'') := fun w' h => alive_law xa xb xd yv c ps _ self w' (HX3.out _ h).cd.conf hc1 hc2 (HX3.out _ h).y.1 (by omega)
  have K2 : Hid (∀ w', Below W.heap.size W w' → Calls Try.prog 32 #[.agg #[a0, b0, d0], bv, .int .i64 self] w' fun e w'' => e = .returned (.bool (quorumB c (haveBy (aliveB self) ps))) ∧ Below w'.heap.size w' w'') := fun w' h => refAlive_law a0 b0 d0 bv c ps _ self w' (HX3.out _ h).cb hc1 hc2 (HX3.out _ h).bb (by omega)
  obtain ⟨r2, hr2⟩ := hide (quorumB c (haveBy (aliveB self) ps))
  rw [hr2.out] at K1 K2
  have e1 : (r2 == r2) = true := beq_self_eq_true _
  clear hr2
  have q0 : V1.cell? ⟨D, 0, none⟩ = some (xa) := cell_n (HX3.out _ H1.out).d 0 rfl
  have q1 : V1.cell? ⟨D, 1, none⟩ = some (xb) := cell_n (HX3.out _ H1.out).d 1 rfl
  have q2 : V1.cell? ⟨D, 2, none⟩ = some (xd) := cell_n (HX3.out _ H1.out).d 2 rfl
  have p0 : V1.cell? ⟨B, 0, none⟩ = some (a0) := cell_n (HX3.out _ H1.out).b 0 rfl
  have p1 : V1.cell? ⟨B, 1, none⟩ = some (b0) := cell_n (HX3.out _ H1.out).b 1 rfl
  have p2 : V1.cell? ⟨B, 2, none⟩ = some (d0) := cell_n (HX3.out _ H1.out).b 2 rfl
  have l0 : V1.cell? ⟨L, 0, none⟩ = some (.int .i64 base) := cell_n (HX3.out _ H1.out).t.lg 0 rfl
  have l1 : V1.cell? ⟨L, 1, none⟩ = some (.int .i64 bt) := cell_n (HX3.out _ H1.out).t.lg 1 rfl
  have l2 : V1.cell? ⟨L, 2, none⟩ = some (ev) := cell_n (HX3.out _ H1.out).t.lg 2 rfl
  have z0 : V1.cell? ⟨Z, 0, none⟩ = some (.int .i64 base) := cell_n (HX3.out _ H1.out).t.z 0 rfl
  have z1 : V1.cell? ⟨Z, 1, none⟩ = some (.int .i64 bt) := cell_n (HX3.out _ H1.out).t.z 1 rfl
  have z2 : V1.cell? ⟨Z, 2, none⟩ = some (.slice zo es.length zc) := cell_n (HX3.out _ H1.out).t.z 2 rfl
  have s0 := fun (dd : Nat) (os : Array Obj) => cell_regrown q0 dd os
  have s1 := fun (dd : Nat) (os : Array Obj) => cell_regrown q1 dd os
  have s2 := fun (dd : Nat) (os : Array Obj) => cell_regrown q2 dd os
  have r0 := fun (dd : Nat) (os : Array Obj) => cell_regrown p0 dd os
  have r1 := fun (dd : Nat) (os : Array Obj) => cell_regrown p1 dd os
  have r2 := fun (dd : Nat) (os : Array Obj) => cell_regrown p2 dd os
  have k0 := fun (dd : Nat) (os : Array Obj) => cell_regrown l0 dd os
  have k1 := fun (dd : Nat) (os : Array Obj) => cell_regrown l1 dd os
  have k2 := fun (dd : Nat) (os : Array Obj) => cell_regrown l2 dd os
  have y0 := fun (dd : Nat) (os : Array Obj) => cell_regrown z0 dd os
  have y1 := fun (dd : Nat) (os : Array Obj) => cell_regrown z1 dd os
  have y2 := fun (dd : Nat) (os : Array Obj) => cell_regrown z2 dd os
  clear q0 q1 q2 p0 p1 p2 l0 l1 l2 z0 z1 z2
  have HG : Hid (∀ (dd : Nat) (os : Array Obj), Below W.heap.size W (Sort.grow (redrawn V1 dd) os)) := fun dd os => H1.out.trans ((below_regrown V1 dd os).mono H1.out.size)
  go_upto_region 16 with fail
  try dsimp only
  refine wp_region_quiet_below (by kernel_rfl) (by kernel_rfl) ?_
  repeat (go_big_quiet_step (first | (go_at_call 31; with_reducible refine Calls.regrown_of (K1.out _ (HG.out _ _))) | (go_at_call 32; with_reducible refine Calls.regrown_of (K2.out _ (HG.out _ _)))))
  refine wpQuiet_nil ?_
  intro _ hw'
  obtain ⟨⟨dq, osq⟩, hw''⟩ := hw'
  subst hw''
  have H2 := Lib.hid (HG.out dq osq)
  obtain ⟨V2, hV2⟩ : ∃ U, U = Sort.grow (redrawn V1 dq) osq := ⟨_, rfl⟩
  rw [← hV2] at H2 ⊢
  clear hV2 HG s0 s1 s2 r0 r1 r2 k0 k1 k2 y0 y1 y2
  clear K1 K2 e1
  have K1 : Hid (∀ w', Below W.heap.size W w' → Calls Try.prog 33 #[.agg #[xa, xb, xd], yv, .int .i64 self, .int .i64 hint] w' fun e w'' => e = .returned (.int .i64 (roundP c ps self hint)) ∧ Below w'.heap.size w' w'') := fun w' h => round_law xa xb xd yv c ps _ self hint w' (HX3.out _ h).cd.conf hc1 hc2 (HX3.out _ h).y.1 hps
  have K2 : Hid (∀ w', Below W.heap.size W w' → Calls Try.prog 34 #[.agg #[a0, b0, d0], bv, .int .i64 self, .int .i64 hint] w' fun e w'' => e = .returned (.int .i64 (roundP c ps self hint)) ∧ Below w'.heap.size w' w'') := fun w' h => refRound_law a0 b0 d0 bv c ps _ self hint w' (HX3.out _ h).cb hc1 hc2 (HX3.out _ h).bb hps
  obtain ⟨r3, hr3⟩ := hide (roundP c ps self hint)
  rw [hr3.out] at K1 K2
  have e1 : (r3 == r3) = true := beq_self_eq_true _
  clear hr3
  have q0 : V2.cell? ⟨D, 0, none⟩ = some (xa) := cell_n (HX3.out _ H2.out).d 0 rfl
  have q1 : V2.cell? ⟨D, 1, none⟩ = some (xb) := cell_n (HX3.out _ H2.out).d 1 rfl
  have q2 : V2.cell? ⟨D, 2, none⟩ = some (xd) := cell_n (HX3.out _ H2.out).d 2 rfl
  have p0 : V2.cell? ⟨B, 0, none⟩ = some (a0) := cell_n (HX3.out _ H2.out).b 0 rfl
  have p1 : V2.cell? ⟨B, 1, none⟩ = some (b0) := cell_n (HX3.out _ H2.out).b 1 rfl
  have p2 : V2.cell? ⟨B, 2, none⟩ = some (d0) := cell_n (HX3.out _ H2.out).b 2 rfl
  have l0 : V2.cell? ⟨L, 0, none⟩ = some (.int .i64 base) := cell_n (HX3.out _ H2.out).t.lg 0 rfl
  have l1 : V2.cell? ⟨L, 1, none⟩ = some (.int .i64 bt) := cell_n (HX3.out _ H2.out).t.lg 1 rfl
  have l2 : V2.cell? ⟨L, 2, none⟩ = some (ev) := cell_n (HX3.out _ H2.out).t.lg 2 rfl
  have z0 : V2.cell? ⟨Z, 0, none⟩ = some (.int .i64 base) := cell_n (HX3.out _ H2.out).t.z 0 rfl
  have z1 : V2.cell? ⟨Z, 1, none⟩ = some (.int .i64 bt) := cell_n (HX3.out _ H2.out).t.z 1 rfl
  have z2 : V2.cell? ⟨Z, 2, none⟩ = some (.slice zo es.length zc) := cell_n (HX3.out _ H2.out).t.z 2 rfl
  have s0 := fun (dd : Nat) (os : Array Obj) => cell_regrown q0 dd os
  have s1 := fun (dd : Nat) (os : Array Obj) => cell_regrown q1 dd os
  have s2 := fun (dd : Nat) (os : Array Obj) => cell_regrown q2 dd os
  have r0 := fun (dd : Nat) (os : Array Obj) => cell_regrown p0 dd os
  have r1 := fun (dd : Nat) (os : Array Obj) => cell_regrown p1 dd os
  have r2 := fun (dd : Nat) (os : Array Obj) => cell_regrown p2 dd os
  have k0 := fun (dd : Nat) (os : Array Obj) => cell_regrown l0 dd os
  have k1 := fun (dd : Nat) (os : Array Obj) => cell_regrown l1 dd os
  have k2 := fun (dd : Nat) (os : Array Obj) => cell_regrown l2 dd os
  have y0 := fun (dd : Nat) (os : Array Obj) => cell_regrown z0 dd os
  have y1 := fun (dd : Nat) (os : Array Obj) => cell_regrown z1 dd os
  have y2 := fun (dd : Nat) (os : Array Obj) => cell_regrown z2 dd os
  clear q0 q1 q2 p0 p1 p2 l0 l1 l2 z0 z1 z2
  have HG : Hid (∀ (dd : Nat) (os : Array Obj), Below W.heap.size W (Sort.grow (redrawn V2 dd) os)) := fun dd os => H2.out.trans ((below_regrown V2 dd os).mono H2.out.size)
  go_upto_region 17 with fail
  try dsimp only
  refine wp_region_quiet_below (by kernel_rfl) (by kernel_rfl) ?_
  repeat (go_big_quiet_step (first | (go_at_call 33; with_reducible refine Calls.regrown_of (K1.out _ (HG.out _ _))) | (go_at_call 34; with_reducible refine Calls.regrown_of (K2.out _ (HG.out _ _)))))
  refine wpQuiet_nil ?_
  intro _ hw'
  obtain ⟨⟨dq, osq⟩, hw''⟩ := hw'
  subst hw''
  have H3 := Lib.hid (HG.out dq osq)
  obtain ⟨V3, hV3⟩ : ∃ U, U = Sort.grow (redrawn V2 dq) osq := ⟨_, rfl⟩
  rw [← hV3] at H3 ⊢
  clear hV3 HG s0 s1 s2 r0 r1 r2 k0 k1 k2 y0 y1 y2
  clear K1 K2 e1
  have K := Lib.hid (heldProgresses_law yv bv 0 ps _ V3 (HX3.out _ H3.out).y.2 (HX3.out _ H3.out).bb (by omega))
  go_wp2_with fail
  refine K.out.mono ?_
  rintro e w4 ⟨rfl, hb⟩
  have H4 := Lib.hid (H3.out.trans (hb.mono H3.out.size))
  clear hb K
  try dsimp only
  have c2 : w4.cell? ⟨L, 2, none⟩ = some ev := cell_n (HX3.out _ H4.out).t.lg 2 rfl
  have d2 : w4.cell? ⟨Z, 2, none⟩ = some (.slice zo es.length zc) := cell_n (HX3.out _ H4.out).t.z 2 rfl
  have K := Lib.hid (law_heldEntries zo zc ev es _ _ w4 (HX3.out _ H4.out).t.ze (HX3.out _ H4.out).t.le)
  go_wp2_with fail
  refine K.out.mono ?_
  rintro e w5 ⟨rfl, hb⟩
  have H5 := Lib.hid (H4.out.trans (hb.mono H4.out.size))
  clear hb K c2 d2
  try dsimp only
  have q0 : w5.cell? ⟨D, 0, none⟩ = some (xa) := cell_n (HX3.out _ H5.out).d 0 rfl
  have q1 : w5.cell? ⟨D, 1, none⟩ = some (xb) := cell_n (HX3.out _ H5.out).d 1 rfl
  have q2 : w5.cell? ⟨D, 2, none⟩ = some (xd) := cell_n (HX3.out _ H5.out).d 2 rfl
  have p0 : w5.cell? ⟨B, 0, none⟩ = some (a0) := cell_n (HX3.out _ H5.out).b 0 rfl
  have p1 : w5.cell? ⟨B, 1, none⟩ = some (b0) := cell_n (HX3.out _ H5.out).b 1 rfl
  have p2 : w5.cell? ⟨B, 2, none⟩ = some (d0) := cell_n (HX3.out _ H5.out).b 2 rfl
  have K := Lib.hid (heldConfig_law xa xb xd a0 b0 d0 0 c w5 (HX3.out _ H5.out).cd (HX3.out _ H5.out).cb (by omega) (by omega) (by omega))
  go_wp2_with fail
  refine K.out.mono ?_
  rintro e w6 ⟨rfl, hb⟩
  have H6 := Lib.hid (H5.out.trans (hb.mono H5.out.size))
  have Ho6 : Hid (w6.ownsRow S 27 6 (.slice ap m ac) m xs0) := own_below Ho0.out H6.out
  have hS6 : S ≤ w6.heap.size := Nat.le_trans hS H6.out.size
  clear hb K q0 q1 q2 p0 p1 p2
  try dsimp only
  iterate 12 (first | done | exact track_over L Z ev es known kv xv base bt zo zc hkn ap m ac S xs0 hm w6 hS6 Ho6 post (fun w' h => HP.out w' (grown_trans (Mm.below_grown H6.out _) h)) (fun w' h => HX.out w' (grown_trans (Mm.below_grown H6.out _) h)) index hint hix hrange hok | go_step)
end Go.Proofs.Ytgdmcbjlfnjhjaa

namespace Go.Proofs.Ytgdmcbjlfnjhjaa
open Go.RowKit Wm Mm Lg
set_option linter.unusedVariables false
set_option linter.unusedSimpArgs false

theorem up_own {w4 V w' : World} {S : Nat} {e : TypeId} {size : Nat} {v : Value} {n : Nat} {xs : List Value} (h : w4.ownsRow S e size v n xs) (hg : V.grownBy w' v.ownBlock) : Up w4.heap.size V w' :=
  fun k h1 h2 => hg.block k h2 (fun e => by have := (h.lt k e.symm).2; omega)
theorem known_ack : ackE ⟨2, 0, 5, 1, false, 0⟩ 6 = ⟨2, 6, 7, 2, false, 0⟩ := by unfold ackE; simp [wrap64]; omega
theorem rising_len9 {l : List Int} (h : risingB l = true) : l.length ≤ 9 := by
  obtain ⟨hs, hb⟩ := rising_iff.1 h
  have key : ∀ i (hi : i < l.length), (i : Int) + 1 ≤ l[i] := by
    intro i
    induction i with
    | zero => intro hi; have := (hb l[0] (List.getElem_mem hi)).1; simpa using this
    | succ i ih =>
      intro hi
      have h1 := ih (by omega)
      have h2 : l[i] < l[i + 1] := List.pairwise_iff_getElem.1 hs i (i + 1) (by omega) hi (by omega)
      omega
  by_cases h0 : l.length = 0
  · omega
  · have h1 := key (l.length - 1) (by omega)
    have h2 := (hb l[l.length - 1] (List.getElem_mem (by omega))).2
    omega
set_option maxHeartbeats 4000000 in
set_option maxRecDepth 100000 in
theorem track_make {v0 v3 v8 v9 v11 v12 v13 v14 v15 v16 v17 v18 v19 v20 v21 v22 v23 v24 v25 v26 v27 v28 v29 v30 v31 v32 v33 v34 v35 v36 v37 v38 v39 v40 v41 v42 v43 v44 v45 v46 v47 v48 v49 v50 v51 v52 v53 v54 v55 v56 v57 v58 v59 v60 v61 v62 v63 v64 v65 v66 v67 v68 v69 v70 v71 v72 v73 v74 v75 v76 v77 v78 v79 v80 v81 v82 v83 v84 v85 v86 v87 v88 v89 v90 v91 v92 v93 v94 v95 v96 v97 v98 v99 v100 v101 v102 v103 v104 v105 v106 v107 v108 v109 v110 v111 v112 v113 v114 v115 v116 v117 v118 v119 v120 v121 v122 v123 v124 v125 v126 v127 v128 v129 v130 v131 v132 v133 v134 v135 v136 v137 v138 v139 v140 v141 v142 v143 v144 v145 v146 v147 v148 v149 v150 v151 v152 v153 v154 v155 v156 v157 v158 v159 v160 v161 v162 v163 v164 v165 v166 v167 v168 v169 v170 v171 v172 v173 v174 v175 v176 v177 v178 v179 v180 v181 v182 v183 v184 v185 v186 v187 v188 v189 v190 v191 v192 v193 v194 v195 v196 v197 v198 v199 v200 v201 v202 v203 v204 v205 v206 v207 v208 v209 v210 v211 v212 v213 v214 v215 v216 v217 v218 v219 v220 v221 v222 v223 v224 v225 v226 v227 v228 v229 v230 v231 v232 v233 v234 v235 v236 v237 v238 v239 v240 v241 v242 v243 v244 v245 v246 v247 v248 v249 v250 v251 v252 v253 v254 v255 v256 v257 v258 v259 v260 v261 v262 v263 v264 v265 v266 v267 v268 v269 v270 v271 v272 v273 v274 v275 v276 v277 v278 v279 v280 v281 v282 v283 v284 v285 v286 v287 v288 v289 v290 v291 v292 v293 v294 v295 v296 v297 v298 v299 v300 v301 v302 v303 v304 v305 v306 v307 v308 v309 v310 v311 v312 v313 v314 v315 v316 v317 v318 v319 v320 v321 v322 v323 v324 v325 v326 v327 v328 v329 v330 v331 v332 v333 v334 v335 v336 v337 v338 v339 v340 v341 v342 v343 v344 v345 : Value} (B : Nat) (a0 b0 d0 : Value) (c : Conf) (L : Nat) (ev : Value) (es : List EntP) (known : List ProgP) (kv : Value) (base bt : Int) (hkn : known.length ≤ 2932031007317) (hes : es.length ≤ 3518437208800)
    (hv : validB c = true) (W : World) (post : Ending → World → Prop) (HP : Hid (∀ w', Below W.heap.size W w' → post (.returned (.bool true)) w')) (HA : Hid (∀ w', Below W.heap.size W w' → w'.heap[B]? = some (.cells #[a0, b0, d0] 25 (0, 0)) ∧ Config3 w' a0 b0 d0 c ∧ w'.heap[L]? = some (.cells (oLog base bt ev) 33 (0, 0)) ∧ Ents (fun _ => True) w' ev es ∧ Prgs (fun _ => True) w' kv known))
    (self index hint term : Int) (hsf : (-9223372036854775808 : Int) ≤ self ∧ self ≤ 9223372036854775807) (hix : (-9223372036854775808 : Int) ≤ index ∧ index ≤ 9223372036854775807) (hrange : ∀ p ∈ known, ((-9223372036854775808 : Int) ≤ p.mtch ∧ p.mtch ≤ 9223372036854775807) ∧ (-9223372036854775808 : Int) ≤ p.nxt ∧ p.nxt ≤ 9223372036854775807) (hok : Hid (Ok base es)) :
    Code.wp Try.prog ((Try.f5.body.bind (seqAt 8)).getD .skip) (bodyPost Try.prog Try.f5 post) ⟨#[v0, kv, .int .i64 self, v3, .int .i64 index, .int .i64 hint, .int .i64 term, .pointer (some ⟨B, 0, none⟩), v8, v9, .pointer (some ⟨L, 0, none⟩), v11, v12, v13, v14, v15, v16, v17, v18, v19, v20, v21, v22, v23, v24, v25, v26, v27, v28, v29, v30, v31, v32, v33, v34, v35, v36, v37, v38, v39, v40, v41, v42, v43, v44, v45, v46, v47, v48, v49, v50, v51, v52, v53, v54, v55, v56, v57, v58, v59, v60, v61, v62, v63, v64, v65, v66, v67, v68, v69, v70, v71, v72, v73, v74, v75, v76, v77, v78, v79, v80, v81, v82, v83, v84, v85, v86, v87, v88, v89, v90, v91, v92, v93, v94, v95, v96, v97, v98, v99, v100, v101, v102, v103, v104, v105, v106, v107, v108, v109, v110, v111, v112, v113, v114, v115, v116, v117, v118, v119, v120, v121, v122, v123, v124, v125, v126, v127, v128, v129, v130, v131, v132, v133, v134, v135, v136, v137, v138, v139, v140, v141, v142, v143, v144, v145, v146, v147, v148, v149, v150, v151, v152, v153, v154, v155, v156, v157, v158, v159, v160, v161, v162, v163, v164, v165, v166, v167, v168, v169, v170, v171, v172, v173, v174, v175, v176, v177, v178, v179, v180, v181, v182, v183, v184, v185, v186, v187, v188, v189, v190, v191, v192, v193, v194, v195, v196, v197, v198, v199, v200, v201, v202, v203, v204, v205, v206, v207, v208, v209, v210, v211, v212, v213, v214, v215, v216, v217, v218, v219, v220, v221, v222, v223, v224, v225, v226, v227, v228, v229, v230, v231, v232, v233, v234, v235, v236, v237, v238, v239, v240, v241, v242, v243, v244, v245, v246, v247, v248, v249, v250, v251, v252, v253, v254, v255, v256, v257, v258, v259, v260, v261, v262, v263, v264, v265, v266, v267, v268, v269, v270, v271, v272, v273, v274, v275, v276, v277, v278, v279, v280, v281, v282, v283, v284, v285, v286, v287, v288, v289, v290, v291, v292, v293, v294, v295, v296, v297, v298, v299, v300, v301, v302, v303, v304, v305, v306, v307, v308, v309, v310, v311, v312, v313, v314, v315, v316, v317, v318, v319, v320, v321, v322, v323, v324, v325, v326, v327, v328, v329, v330, v331, v332, v333, v334, v335, v336, v337, v338, v339, v340, v341, v342, v343, v344, v345], []⟩ W := by
  conv => arg 2; whnf
  obtain ⟨_, hr1, hr2, hr3, _⟩ := validB_iff.1 hv
  have h1 := rising_len9 hr1
  have h2 := rising_len9 hr2
  have h3 := rising_len9 hr3
  have Hnine := Lib.hid (nineP_all hv)
  have hul : (unionP (c.v ++ (c.n ++ c.l))).length ≤ 10 := by rw [← nineP_all hv]; exact upK_len _ 10
  have hc1 : c.v.length ≤ 1048576 := by omega
  have hc2 : c.n.length ≤ 1048576 := by omega
  have hc3 : c.l.length ≤ 1048576 := by omega
  clear h1 h2 h3 hr1 hr2 hr3 hv
  have H0 : Hid (Below W.heap.size W W) := Below.refl _ _
  have K := Lib.hid (progresses_law kv known _ W (HA.out _ H0.out).2.2.2.2 hkn)
  go_wp2_with fail
  refine K.out.mono ?_
  rintro e w1 ⟨xv, rfl, hx, hb⟩
  have H1 : Hid (Below W.heap.size W w1) := hb
  have HX1 : Hid (∀ w', Below w1.heap.size w1 w' → HeldG 0 w' xv known) := fun w' h => (hx.base (Nat.zero_le _)).below h
  clear hb K hx
  try dsimp only
  have K := Lib.hid (refProgresses_law a0 b0 d0 kv c known _ self index w1 (HA.out _ H1.out).2.1 hsf (HA.out _ H1.out).2.2.2.2 hkn)
  rw [Hnine.out] at K
  have p0 : w1.cell? ⟨B, 0, none⟩ = some a0 := cell_n (HA.out _ H1.out).1 0 rfl
  have p1 : w1.cell? ⟨B, 1, none⟩ = some b0 := cell_n (HA.out _ H1.out).1 1 rfl
  have p2 : w1.cell? ⟨B, 2, none⟩ = some d0 := cell_n (HA.out _ H1.out).1 2 rfl
  go_wp2_with fail
  refine K.out.mono ?_
  rintro e w2 ⟨bv, rfl, ho, hb⟩
  have H12 : Hid (Below w1.heap.size w1 w2) := hb
  have H2 : Hid (Below W.heap.size W w2) := H1.out.trans (hb.mono H1.out.size)
  have HB2 : Hid (∀ w', Below w2.heap.size w2 w' → Prgs (fun _ => True) w' bv ((unionP (c.v ++ (c.n ++ c.l))).map (progE known self index))) := fun w' h => ((OwnPr.prgs ho).weak (Plain.good _) (fun _ _ _ => trivial)).frame (Plain.good _) (Agree.below h)
  clear hb K ho p0 p1 p2
  try dsimp only
  have K := Lib.hid (held_conf a0 b0 d0 c w2 (HA.out _ H2.out).2.1 (by omega) (by omega) (by omega))
  have p0 : w2.cell? ⟨B, 0, none⟩ = some a0 := cell_n (HA.out _ H2.out).1 0 rfl
  have p1 : w2.cell? ⟨B, 1, none⟩ = some b0 := cell_n (HA.out _ H2.out).1 1 rfl
  have p2 : w2.cell? ⟨B, 2, none⟩ = some d0 := cell_n (HA.out _ H2.out).1 2 rfl
  go_wp2_with fail
  refine K.out.mono ?_
  rintro e w3 ⟨fa, fb, fd, rfl, hcf, hb⟩
  obtain ⟨f1, fk1, rfl⟩ := hcf.v.len
  obtain ⟨f2, fk2, rfl⟩ := hcf.n.len
  obtain ⟨f3, fk3, rfl⟩ := hcf.l.len
  have H23 : Hid (Below w2.heap.size w2 w3) := hb
  have H3 : Hid (Below W.heap.size W w3) := H2.out.trans (hb.mono H2.out.size)
  have H13 : Hid (Below w1.heap.size w1 w3) := H12.out.trans (hb.mono H12.out.size)
  have hxp := (HX1.out _ H13.out).prgs
  have K2 := begin_track _ _ _ xv c known _ self index w3 hcf.conf hc1 hc2 hc3 hxp hkn (by omega)
  obtain ⟨ps, hps⟩ := hide ((unionP (c.v ++ (c.n ++ c.l))).map (progE known self index))
  have hpl : ps.length ≤ 10 := by rw [← hps.out, List.length_map]; exact hul
  rw [hps.out] at HB2 K2
  have K2 := Lib.hid K2
  clear hb K hcf p0 p1 p2 hxp hps
  try dsimp only
  go_wp2_with fail
  refine K2.out.mono ?_
  rintro e w4 ⟨av, rfl, ho, hb⟩
  obtain ⟨ap, ac, rfl⟩ := owns_slice ho
  have H34 : Hid (Below w3.heap.size w3 w4) := hb
  have H4 : Hid (Below W.heap.size W w4) := H3.out.trans (hb.mono H3.out.size)
  have H14 : Hid (Below w1.heap.size w1 w4) := H13.out.trans (hb.mono H13.out.size)
  have H24 : Hid (Below w2.heap.size w2 w4) := H23.out.trans (hb.mono H23.out.size)
  have HO4 : Hid (w4.ownsRow w3.heap.size 27 6 (.slice ap ps.length ac) ps.length (ps.flatMap rowG)) := ho
  have HA4 : Hid (Prgs (fun _ => True) w4 (.slice ap ps.length ac) ps) := (OwnPr.prgs (S := w3.heap.size) (l := ps) ho).weak (Plain.good _) (fun _ _ _ => trivial)
  clear hb K2 ho
  try dsimp only
  have K := Lib.hid (sameProgress_law _ bv ps _ _ w4 HA4.out (HB2.out _ H24.out) (by omega))
  go_wp2_with fail
  refine K.out.mono ?_
  rintro e w5 ⟨rfl, hb⟩
  have H45 : Hid (Below w4.heap.size w4 w5) := hb
  have H5 : Hid (Below W.heap.size W w5) := H4.out.trans (hb.mono H4.out.size)
  have H25 : Hid (Below w2.heap.size w2 w5) := H24.out.trans (hb.mono H24.out.size)
  clear hb K
  try dsimp only
  have K := Lib.hid (progresses_law bv ps _ w5 (HB2.out _ H25.out) (by omega))
  go_wp2_with fail
  refine K.out.mono ?_
  rintro e w6 ⟨yv, rfl, hy, hb⟩
  have H46 : Hid (Below w4.heap.size w4 w6) := H45.out.trans (hb.mono H45.out.size)
  have H6 : Hid (Below W.heap.size W w6) := H5.out.trans (hb.mono H5.out.size)
  have HY6 : Hid (∀ w', Below w6.heap.size w6 w' → HeldG 0 w' yv ps) := fun w' h => (hy.base (Nat.zero_le _)).below h
  clear hb K hy
  try dsimp only
  have K := Lib.hid (law_logOf base bt ev es _ w6 (HA.out _ H6.out).2.2.2.1 hes)
  have l0 : w6.cell? ⟨L, 0, none⟩ = some (.int .i64 base) := cell_n (HA.out _ H6.out).2.2.1 0 rfl
  have l1 : w6.cell? ⟨L, 1, none⟩ = some (.int .i64 bt) := cell_n (HA.out _ H6.out).2.2.1 1 rfl
  have l2 : w6.cell? ⟨L, 2, none⟩ = some (ev) := cell_n (HA.out _ H6.out).2.2.1 2 rfl
  go_wp2_with fail
  refine K.out.mono ?_
  rintro e w7 ⟨zo, zc, rfl, hz, hb⟩
  have H47 : Hid (Below w4.heap.size w4 w7) := H46.out.trans (hb.mono H46.out.size)
  have H67 : Hid (Below w6.heap.size w6 w7) := hb
  have ba : Below w7.heap.size w7 (w7.alloc (.cells (oLog base bt (.slice zo es.length zc)) 33)) := (Below.refl _ _).alloc (Nat.le_refl _) _
  have hxa : (w7.alloc (.cells (oLog base bt (.slice zo es.length zc)) 33)).heap[w7.heap.size]? = some (.cells (oLog base bt (.slice zo es.length zc)) 33 (0, 0)) := hp_at _ _ rfl
  obtain ⟨V7, hV7⟩ := hide (w7.alloc (.cells (oLog base bt (.slice zo es.length zc)) 33))
  rw [hV7.out] at ba hxa
  have HZ7 : Hid (V7.ownsRow w4.heap.size 30 4 (.slice zo (es.length + 1) zc) (es.length + 1) ((es ++ [e99]).flatMap rowE)) := own_base (own_below hz ba) H46.out.size
  have H77 : Hid (Below w7.heap.size w7 V7) := ba
  have H4V : Hid (Below w4.heap.size w4 V7) := H47.out.trans (ba.mono H47.out.size)
  have H6V : Hid (Below w6.heap.size w6 V7) := H67.out.trans (ba.mono H67.out.size)
  have HV : Hid (Below W.heap.size W V7) := H6.out.trans (H6V.out.mono H6.out.size)
  obtain ⟨Z, hZ⟩ := hide w7.heap.size
  have HZs : Hid (w4.heap.size ≤ Z) := by show _ ≤ _; rw [← hZ.out]; exact H47.out.size
  rw [hZ.out] at hxa
  have HZ := Lib.hid hxa
  clear hb K hz ba hxa l0 l1 l2
  try dsimp only
  go_upto_region 14 with fail
  rw [hV7.out, hZ.out]
  have K := Lib.hid (held_conf a0 b0 d0 c V7 (HA.out _ HV.out).2.1 (by omega) (by omega) (by omega))
  have p0 : V7.cell? ⟨B, 0, none⟩ = some a0 := cell_n (HA.out _ HV.out).1 0 rfl
  have p1 : V7.cell? ⟨B, 1, none⟩ = some b0 := cell_n (HA.out _ HV.out).1 1 rfl
  have p2 : V7.cell? ⟨B, 2, none⟩ = some d0 := cell_n (HA.out _ HV.out).1 2 rfl
  go_wp2_with fail
  refine K.out.mono ?_
  rintro e w8 ⟨ga, gb, gd, rfl, hcf, hb⟩
  obtain ⟨g1, gk1, rfl⟩ := hcf.v.len
  obtain ⟨g2, gk2, rfl⟩ := hcf.n.len
  obtain ⟨g3, gk3, rfl⟩ := hcf.l.len
  have H78 : Hid (Below V7.heap.size V7 w8) := hb
  have hcf2 := hcf
  have ba : Below w8.heap.size w8 (w8.alloc (.cells #[(.slice g1 c.v.length gk1), (.slice g2 c.n.length gk2), (.slice g3 c.l.length gk3)] 25)) := (Below.refl _ _).alloc (Nat.le_refl _) _
  have hxa : (w8.alloc (.cells #[(.slice g1 c.v.length gk1), (.slice g2 c.n.length gk2), (.slice g3 c.l.length gk3)] 25)).heap[w8.heap.size]? = some (.cells #[(.slice g1 c.v.length gk1), (.slice g2 c.n.length gk2), (.slice g3 c.l.length gk3)] 25 (0, 0)) := hp_at _ _ rfl
  obtain ⟨V8, hV8⟩ := hide (w8.alloc (.cells #[(.slice g1 c.v.length gk1), (.slice g2 c.n.length gk2), (.slice g3 c.l.length gk3)] 25))
  rw [hV8.out] at ba hxa
  obtain ⟨D, hD⟩ := hide w8.heap.size
  rw [hD.out] at hxa
  have HD := Lib.hid hxa
  have HCD : Hid (Config3H 0 V8 (.slice g1 c.v.length gk1) (.slice g2 c.n.length gk2) (.slice g3 c.l.length gk3) c) := (hcf.base (Nat.zero_le _)).below ba
  have H7V : Hid (Below V7.heap.size V7 V8) := H78.out.trans (ba.mono H78.out.size)
  have H4W : Hid (Below w4.heap.size w4 V8) := H4V.out.trans (H7V.out.mono H4V.out.size)
  have H6W : Hid (Below w6.heap.size w6 V8) := H6V.out.trans (H7V.out.mono H6V.out.size)
  have HVW : Hid (Below W.heap.size W V8) := HV.out.trans (H7V.out.mono HV.out.size)
  have H2W : Hid (Below w2.heap.size w2 V8) := H24.out.trans (H4W.out.mono H24.out.size)
  have H1W : Hid (Below w1.heap.size w1 V8) := H12.out.trans (H2W.out.mono H12.out.size)
  have HO8 : Hid (V8.ownsRow w3.heap.size 27 6 (.slice ap ps.length ac) ps.length (ps.flatMap rowG)) := own_below HO4.out H4W.out
  have HZ8 : Hid (V8.ownsRow w4.heap.size 30 4 (.slice zo (es.length + 1) zc) (es.length + 1) ((es ++ [e99]).flatMap rowE)) := own_below HZ7.out H7V.out
  have HZo : Hid (V8.heap[Z]? = some (.cells (oLog base bt (.slice zo es.length zc)) 33 (0, 0))) := (H7V.out.block Z (lt_of_block HZ.out)).trans HZ.out
  have HGW : Hid (∀ w', V8.grownBy w' (Value.slice ap ps.length ac).ownBlock → Below w3.heap.size V8 w' ∧ Up w4.heap.size V8 w') := fun w' h => ⟨below_own HO8.out h (Nat.le_refl _) (Nat.le_trans H34.out.size H4W.out.size), up_own HO4.out h⟩
  have H3s : Hid (w1.heap.size ≤ w3.heap.size ∧ W.heap.size ≤ w3.heap.size) := ⟨H13.out.size, H3.out.size⟩
  have HP8 : Hid (∀ w', V8.grownBy w' (Value.slice ap ps.length ac).ownBlock → post (.returned (.bool true)) w') := fun w' h => HP.out w' (HVW.out.trans ((HGW.out w' h).1.mono H3s.out.2))
  have HX8 : Hid (∀ w', V8.grownBy w' (Value.slice ap ps.length ac).ownBlock → Tf2 L Z ev es known kv xv base bt zo zc w') := by
    show ∀ w', _ → _
    intro w' h
    obtain ⟨h3, h4⟩ := HGW.out w' h
    have a1 := HA.out w' (HVW.out.trans (h3.mono H3s.out.2))
    have x1 := HX1.out w' (H1W.out.trans (h3.mono H3s.out.1))
    have z1 : Ents (fun _ => True) w' (.slice zo (es.length + 1) zc) (es ++ [e99]) := by
      refine Sl.own rowE rowE_len (S := w4.heap.size) (e := 30) ?_ (fun _ _ => rfl) (fun _ _ _ _ => trivial)
      rw [List.length_append]
      exact own_up HZ8.out h4 (Nat.le_refl _)
    exact {
      lg := a1.2.2.1
      le := a1.2.2.2.1
      kn := a1.2.2.2.2
      x := ⟨x1.prgs.weak (Plain.good _) (fun _ _ _ => trivial), x1⟩
      z := (h4 Z HZs.out (lt_of_block HZo.out)).trans HZo.out
      ze := z1 }
  have HX3 : Hid (∀ w', Below V8.heap.size V8 w' → Tf3 B D a0 b0 d0 (.slice g1 c.v.length gk1) (.slice g2 c.n.length gk2) (.slice g3 c.l.length gk3) bv yv c ps L Z ev es known kv xv base bt zo zc w') := by
    show ∀ w', _ → _
    intro w' h
    have a1 := HA.out w' (HVW.out.trans (h.mono HVW.out.size))
    have y1 := HY6.out w' (H6W.out.trans (h.mono H6W.out.size))
    exact {
      t := HX8.out w' (Mm.below_grown h _)
      b := a1.1
      cb := a1.2.1
      d := (h.block D (lt_of_block HD.out)).trans HD.out
      cd := HCD.out.below h
      bb := HB2.out w' (H2W.out.trans (h.mono H2W.out.size))
      y := ⟨y1.prgs.weak (Plain.good _) (fun _ _ _ => trivial), y1⟩ }
  have hS8 : w3.heap.size ≤ V8.heap.size := Nat.le_trans H34.out.size H4W.out.size
  clear hb K hcf hcf2 ba hxa p0 p1 p2
  try dsimp only
  iterate 16 (first | done | (rw [hV8.out, hD.out]; exact track_three B D a0 b0 d0 _ _ _ bv yv c ps L Z ev es known kv xv base bt zo zc hkn hc1 hc2 hc3 (by omega) ap ps.length ac w3.heap.size (ps.flatMap rowG) (by omega) V8 hS8 HO8 post HP8 HX8 HX3 self index hint term hix hrange hok) | go_step)
set_option maxHeartbeats 4000000 in
set_option maxRecDepth 100000 in
theorem law_track (a0 b0 d0 ev kv : Value) (c : Conf) (known : List ProgP) (es : List EntP) (self base bt index hint term : Int) (w : World) (hc : Config3 w a0 b0 d0 c) (hk : Prgs (fun _ => True) w kv known) (he : Ents (fun _ => True) w ev es) (hkn : known.length ≤ 2932031007317) (hes : es.length ≤ 3518437208800)
    (hsf : (-9223372036854775808 : Int) ≤ self ∧ self ≤ 9223372036854775807) (hix : (-9223372036854775808 : Int) ≤ index ∧ index ≤ 9223372036854775807) (hrange : ∀ p ∈ known, ((-9223372036854775808 : Int) ≤ p.mtch ∧ p.mtch ≤ 9223372036854775807) ∧ (-9223372036854775808 : Int) ≤ p.nxt ∧ p.nxt ≤ 9223372036854775807) :
    Calls Try.prog 5 #[.agg #[a0, b0, d0], kv, .int .i64 self, vLog base bt ev, .int .i64 index, .int .i64 hint, .int .i64 term] w fun e w' => e = .returned (.bool true) ∧ Below w.heap.size w w' := by
  obtain ⟨post, HP0⟩ := hide (fun (e : Ending) (w' : World) => e = .returned (.bool true) ∧ Below w.heap.size w w')
  rw [HP0.out]
  obtain ⟨W0, hW0⟩ := hide ((w.alloc (.cells #[a0, b0, d0] 25)).alloc (.cells (oLog base bt ev) 33))
  have hx : W0.heap[w.heap.size]? = some (.cells #[a0, b0, d0] 25 (0, 0)) := by rw [← hW0.out]; exact (hp_past _ _ (by simp)).trans (hp_at _ _ rfl)
  have hy : W0.heap[w.heap.size + 1]? = some (.cells (oLog base bt ev) 33 (0, 0)) := by rw [← hW0.out]; exact hp_at _ _ (by simp)
  have hbW : Below w.heap.size w W0 := by rw [← hW0.out]; exact ((Below.refl _ _).alloc (Nat.le_refl _) _).alloc (by simp) _
  obtain ⟨B, hB⟩ := hide w.heap.size
  rw [hB.out] at hx hy
  have HA : Hid (∀ w', Below W0.heap.size W0 w' → w'.heap[B]? = some (.cells #[a0, b0, d0] 25 (0, 0)) ∧ Config3 w' a0 b0 d0 c ∧ w'.heap[B + 1]? = some (.cells (oLog base bt ev) 33 (0, 0)) ∧ Ents (fun _ => True) w' ev es ∧ Prgs (fun _ => True) w' kv known) := fun w' h =>
    ⟨(h.block _ (lt_of_block hx)).trans hx, hc.mono (hbW.trans (h.mono hbW.size)), (h.block _ (lt_of_block hy)).trans hy, he.frame (Plain.good _) (Agree.below (hbW.trans (h.mono hbW.size))), hk.frame (Plain.good _) (Agree.below (hbW.trans (h.mono hbW.size)))⟩
  have Hp : Hid (∀ w', Below W0.heap.size W0 w' → post (.returned (.bool true)) w') := by
    show ∀ w', _ → _
    intro w' h; rw [← HP0.out]; exact ⟨rfl, hbW.trans (h.mono hbW.size)⟩
  have H0 : Hid (Below W0.heap.size W0 W0) := Below.refl _ _
  have K := Lib.hid (ref_isConfig a0 b0 d0 c W0 (HA.out _ H0.out).2.1)
  have HV : Hid (validB c = validB c) := rfl
  obtain ⟨z1, hz1⟩ := hide (validB c)
  obtain ⟨z2, hz2⟩ := hide (logB base bt es)
  rw [hz1.out] at K
  have p0 : W0.cell? ⟨B, 0, none⟩ = some a0 := cell_n (HA.out _ H0.out).1 0 rfl
  have p1 : W0.cell? ⟨B, 1, none⟩ = some b0 := cell_n (HA.out _ H0.out).1 1 rfl
  have p2 : W0.cell? ⟨B, 2, none⟩ = some d0 := cell_n (HA.out _ H0.out).1 2 rfl
  clear hx hy hbW hc he hk
  go_enter Try.func5, Try.ntmps5
  go_upto_region 1 with fail
  rw [hW0.out, hB.out]
  go_wp2_with fail
  refine K.out.mono ?_
  rintro e w1 ⟨rfl, hb⟩
  have H1 : Hid (Below W0.heap.size W0 w1) := hb
  have K := ref_isLog base bt ev es _ w1 (HA.out _ H1.out).2.2.2.1 (by omega)
  rw [hz2.out] at K
  have K := Lib.hid K
  clear hb p0 p1 p2
  try dsimp only
  have l0 : w1.cell? ⟨B + 1, 0, none⟩ = some (.int .i64 base) := cell_n (HA.out _ H1.out).2.2.1 0 rfl
  have l1 : w1.cell? ⟨B + 1, 1, none⟩ = some (.int .i64 bt) := cell_n (HA.out _ H1.out).2.2.1 1 rfl
  have l2 : w1.cell? ⟨B + 1, 2, none⟩ = some (ev) := cell_n (HA.out _ H1.out).2.2.1 2 rfl
  go_wp2_with fail
  refine K.out.mono ?_
  rintro e w2 ⟨rfl, hb⟩
  have H2 := Lib.hid (H1.out.trans (hb.mono H1.out.size))
  have K := Lib.hid (ack_exact ⟨2, 0, 5, 1, false, 0⟩ 6 w2)
  clear hb l0 l1 l2
  try dsimp only
  go_wp2_with fail
  refine K.out.mono ?_
  rintro e w3 ⟨rfl, hb⟩
  have H3 := Lib.hid (H2.out.trans (hb.mono H2.out.size))
  have ba : Below w3.heap.size w3 (w3.alloc (objG ⟨2, 6, 7, 2, false, 0⟩)) := (Below.refl _ _).alloc (Nat.le_refl _) _
  have hxa : (w3.alloc (objG ⟨2, 6, 7, 2, false, 0⟩)).heap[w3.heap.size]? = some (objG ⟨2, 6, 7, 2, false, 0⟩) := hp_at _ _ rfl
  obtain ⟨V3, hV3⟩ := hide (w3.alloc (objG ⟨2, 6, 7, 2, false, 0⟩))
  rw [hV3.out] at ba hxa
  have H4 := Lib.hid (H3.out.trans (ba.mono H3.out.size))
  obtain ⟨Q, hQ⟩ := hide w3.heap.size
  rw [hQ.out] at hxa
  have c1 := cell_n hxa 1 (v := .int .i64 6) rfl
  have c2 := cell_n hxa 2 (v := .int .i64 7) rfl
  have c3 := cell_n hxa 3 (v := .int .i64 2) rfl
  rw [known_ack]
  clear hb K ba hxa
  try dsimp only
  go_upto_region 4 with fail
  rw [hV3.out, hQ.out]
  go_upto_region 6 with fail
  clear c1 c2 c3
  have Hq := Lib.hid (Hp.out _ H4.out)
  cases z1 with
  | false =>
    cases z2
    all_goals
      go_wp2_with fail
      first | exact Hq.out | (go_ret; exact Hq.out)
  | true =>
    cases z2 with
    | false =>
      go_wp2_with fail
      first | exact Hq.out | (go_ret; exact Hq.out)
    | true =>
      have Hok : Hid (Ok base es) := logB_ok hz2.out (by omega)
      go_upto_if 72 with (fail)
      iterate 12 (first | done | exact track_make B a0 b0 d0 c (B + 1) ev es known kv base bt hkn hes hz1.out V3 post (fun w' h => Hp.out w' (H4.out.trans (h.mono H4.out.size))) (fun w' h => HA.out w' (H4.out.trans (h.mono H4.out.size))) self index hint term hsf hix hrange Hok | go_step)
end Go.Proofs.Ytgdmcbjlfnjhjaa
