/-
  ConfigMeets: the law's end: the last tests; the loops over the operations.
-/
import Derived.Test.YtgdmcbjlfnjhjaaMq
import Derived.Test.YtgdmcbjlfnjhjaaPce
import Derived.Deep.DeepCutAuto
import Derived.Deep.CutRange
namespace Go.Proofs.Ytgdmcbjlfnjhjaa
open Go.RowKit Wm Mm
set_option linter.unusedVariables false
set_option linter.unusedSimpArgs false

set_option maxHeartbeats 4000000 in
set_option maxRecDepth 100000 in
theorem meets_last {v0 v1 v2 v3 v4 v5 v6 v7 v8 v9 v10 v11 v12 v13 v14 v15 v16 v17 v18 v20 v21 v22 v23 v26 v27 v28 v29 v30 v31 v32 v33 v34 v35 v36 v37 v38 v39 v40 v41 v42 v43 v44 v45 v46 v47 v48 v49 v50 v51 v52 v53 v54 v55 v56 v57 v58 v59 v60 v61 v62 v63 v64 v65 v66 v67 v68 v69 v70 v71 v72 v73 v74 v75 v76 v77 v78 v79 v80 v81 v82 v83 v84 v85 v86 v87 v88 v89 v90 v91 v92 v93 v94 v95 v96 v97 v98 v99 v100 v101 v102 v103 v104 v105 v106 v107 v108 v109 v110 v111 v112 v113 v114 v115 v116 v117 v118 v119 v120 v121 v122 v123 v124 v125 v126 v127 v128 v129 v130 v131 v132 v133 v134 v135 v136 v137 v138 v139 v140 v141 v142 v143 v144 v145 v146 v147 v148 v149 v150 v151 v152 v153 v154 v155 v156 v157 v158 v159 v160 v161 v162 v163 v164 v165 v166 v167 v168 v169 v170 v171 v172 v173 v174 v175 v176 v177 v178 v179 v180 v181 v182 v183 v184 v185 v186 v187 v188 v189 v190 v191 v192 v193 v194 v195 v196 v197 v198 v199 v200 v201 v202 v203 v204 v205 v206 v207 v208 v209 v210 v211 v212 v213 v214 v215 v216 v217 v218 v219 v220 v221 v222 v223 v224 v225 v226 v227 v228 v229 v230 v231 v232 v233 v234 v235 v236 v237 v238 v239 v240 v241 v242 v243 v244 v245 v246 v247 v248 v249 v250 v251 v252 v253 v254 v255 v256 v257 v258 v259 v260 v261 v262 v263 v264 v265 v266 v267 v268 v269 v270 v271 v272 v273 v274 v275 v276 v277 v278 v279 v280 v281 v282 v283 v284 v285 v286 v287 v288 : Value} (W : World) (post : Ending → World → Prop) (HP : Hid (∀ w', Below W.heap.size W w' → post (.returned (.bool true)) w'))
    (E L : Nat) (ea eb ed la lb ld : Value) (d l : Conf) (He : Hid (∀ w', Below W.heap.size W w' → w'.heap[E]? = some (.cells #[ea, eb, ed] 25 (0, 0)) ∧ Config3 w' ea eb ed d)) (Hl : Hid (∀ w', Below W.heap.size W w' → w'.heap[L]? = some (.cells #[la, lb, ld] 25 (0, 0)) ∧ Config3 w' la lb ld l)) (hd : validB d = true) (hl : validB l = true) :
    Code.wp Try.prog ((Try.f4.body.bind (seqAt 45)).getD .skip) (bodyPost Try.prog Try.f4 post) ⟨#[v0, v1, v2, v3, v4, v5, v6, v7, v8, v9, v10, v11, v12, v13, v14, v15, v16, v17, v18, .pointer (some ⟨E, 0, none⟩), v20, v21, v22, v23, .pointer (some ⟨L, 0, none⟩), .bool true, v26, v27, v28, v29, v30, v31, v32, v33, v34, v35, v36, v37, v38, v39, v40, v41, v42, v43, v44, v45, v46, v47, v48, v49, v50, v51, v52, v53, v54, v55, v56, v57, v58, v59, v60, v61, v62, v63, v64, v65, v66, v67, v68, v69, v70, v71, v72, v73, v74, v75, v76, v77, v78, v79, v80, v81, v82, v83, v84, v85, v86, v87, v88, v89, v90, v91, v92, v93, v94, v95, v96, v97, v98, v99, v100, v101, v102, v103, v104, v105, v106, v107, v108, v109, v110, v111, v112, v113, v114, v115, v116, v117, v118, v119, v120, v121, v122, v123, v124, v125, v126, v127, v128, v129, v130, v131, v132, v133, v134, v135, v136, v137, v138, v139, v140, v141, v142, v143, v144, v145, v146, v147, v148, v149, v150, v151, v152, v153, v154, v155, v156, v157, v158, v159, v160, v161, v162, v163, v164, v165, v166, v167, v168, v169, v170, v171, v172, v173, v174, v175, v176, v177, v178, v179, v180, v181, v182, v183, v184, v185, v186, v187, v188, v189, v190, v191, v192, v193, v194, v195, v196, v197, v198, v199, v200, v201, v202, v203, v204, v205, v206, v207, v208, v209, v210, v211, v212, v213, v214, v215, v216, v217, v218, v219, v220, v221, v222, v223, v224, v225, v226, v227, v228, v229, v230, v231, v232, v233, v234, v235, v236, v237, v238, v239, v240, v241, v242, v243, v244, v245, v246, v247, v248, v249, v250, v251, v252, v253, v254, v255, v256, v257, v258, v259, v260, v261, v262, v263, v264, v265, v266, v267, v268, v269, v270, v271, v272, v273, v274, v275, v276, v277, v278, v279, v280, v281, v282, v283, v284, v285, v286, v287, v288], []⟩ W := by
  conv => arg 2; whnf
  have x0 := (He.out _ (Below.refl _ _)).1
  have c0 : W.cell? ⟨E, 0, none⟩ = some ea := cell_n x0 0 rfl
  have c1 : W.cell? ⟨E, 1, none⟩ = some eb := cell_n x0 1 rfl
  have c2 : W.cell? ⟨E, 2, none⟩ = some ed := cell_n x0 2 rfl
  clear x0
  have HV1 := config_valid ea eb ed d W (He.out _ (Below.refl _ _)).2
  rw [hd] at HV1
  have HV1 := Lib.hid HV1
  go_wp2_with fail
  refine HV1.out.mono ?_
  rintro e V ⟨rfl, hb⟩
  have Hb := Lib.hid hb
  clear hb c0 c1 c2
  have x0 := (Hl.out _ Hb.out).1
  have c0 : V.cell? ⟨L, 0, none⟩ = some la := cell_n x0 0 rfl
  have c1 : V.cell? ⟨L, 1, none⟩ = some lb := cell_n x0 1 rfl
  have c2 : V.cell? ⟨L, 2, none⟩ = some ld := cell_n x0 2 rfl
  clear x0
  have HV2 := config_valid la lb ld l V (Hl.out _ Hb.out).2
  rw [hl] at HV2
  have HV2 := Lib.hid HV2
  go_wp2_with fail
  refine HV2.out.mono ?_
  rintro e V2 ⟨rfl, hb⟩
  have Hp := Lib.hid (HP.out _ (Hb.out.trans (hb.mono Hb.out.size)))
  clear hb c0 c1 c2
  go_wp2_with fail
  first | exact Hp.out | (go_ret; exact Hp.out)
set_option maxHeartbeats 4000000 in
set_option maxRecDepth 100000 in
theorem meets_loops {v0 v1 v2 v3 v4 v5 v6 v7 v8 v9 v10 v11 v13 v14 v15 v16 v17 v18 v20 v21 v22 v23 v25 v26 v27 v28 v29 v30 v31 v32 v33 v34 v35 v36 v37 v38 v39 v40 v41 v42 v43 v44 v45 v46 v47 v48 v49 v50 v51 v52 v53 v54 v55 v56 v57 v58 v59 v60 v61 v62 v63 v64 v65 v66 v67 v68 v69 v70 v71 v72 v73 v74 v75 v76 v77 v78 v79 v80 v81 v82 v83 v84 v85 v86 v87 v88 v89 v90 v91 v92 v93 v94 v95 v96 v97 v98 v99 v100 v101 v102 v103 v104 v105 v106 v107 v108 v109 v110 v111 v112 v113 v114 v115 v116 v117 v118 v119 v120 v121 v122 v123 v124 v125 v126 v127 v128 v129 v130 v131 v132 v133 v134 v135 v136 v137 v138 v139 v140 v141 v142 v143 v144 v145 v146 v147 v148 v149 v150 v151 v152 v153 v154 v155 v156 v157 v158 v159 v160 v161 v162 v163 v164 v165 v166 v167 v168 v169 v170 v171 v172 v173 v174 v175 v176 v177 v178 v179 v180 v181 v182 v183 v184 v185 v186 v187 v188 v189 v190 v191 v192 v193 v194 v195 v196 v197 v198 v199 v200 v201 v202 v203 v204 v205 v206 v207 v208 v209 v210 v211 v212 v213 v214 v215 v216 v217 v218 v219 v220 v221 v222 v223 v224 v225 v226 v227 v228 v229 v230 v231 v232 v233 v234 v235 v236 v237 v238 v239 v240 v241 v242 v243 v244 v245 v246 v247 v248 v249 v250 v251 v252 v253 v254 v255 v256 v257 v258 v259 v260 v261 v262 v263 v264 v265 v266 v267 v268 v269 v270 v271 v272 v273 v274 v275 v276 v277 v278 v279 v280 v281 v282 v283 v284 v285 v286 v287 v288 : Value} (W : World) (post : Ending → World → Prop) (HP : Hid (∀ w', Below W.heap.size W w' → post (.returned (.bool true)) w'))
    (E L : Nat) (ea eb ed la lb ld : Value) (d l : Conf) (He : Hid (∀ w', Below W.heap.size W w' → w'.heap[E]? = some (.cells #[ea, eb, ed] 25 (0, 0)) ∧ Config3 w' ea eb ed d)) (Hl : Hid (∀ w', Below W.heap.size W w' → w'.heap[L]? = some (.cells #[la, lb, ld] 25 (0, 0)) ∧ Config3 w' la lb ld l)) (hd : validB d = true) (hl : validB l = true) (ops : List OpP) (ao : Option Addr) (co : Nat) (HO : Hid (∀ w', Below W.heap.size W w' → ops ≠ [] → ∃ b off, ao = some ⟨b, off, none⟩ ∧ ∀ j o, ops[j]? = some o → w'.cell? ⟨b, off + j * 2, none⟩ = some (.int .i64 o.kind) ∧ w'.cell? ⟨b, off + j * 2 + 1, none⟩ = some (.int .i64 o.node))) (hol : ops.length ≤ 6) (Hw : Hid (∀ i (hi : i < ops.length), (∀ k (hk : k < ops.length), i < k → ops[k].node ≠ ops[i].node) → wantB ops[i] l.v l.l = true)) :
    Code.wp Try.prog ((Try.f4.body.bind (seqAt 32)).getD .skip) (bodyPost Try.prog Try.f4 post) ⟨#[v0, v1, v2, v3, v4, v5, v6, v7, v8, v9, v10, v11, .slice ao ops.length co, v13, v14, v15, v16, v17, v18, .pointer (some ⟨E, 0, none⟩), v20, v21, v22, v23, .pointer (some ⟨L, 0, none⟩), v25, v26, v27, v28, v29, v30, v31, v32, v33, v34, v35, v36, v37, v38, v39, v40, v41, v42, v43, v44, v45, v46, v47, v48, v49, v50, v51, v52, v53, v54, v55, v56, v57, v58, v59, v60, v61, v62, v63, v64, v65, v66, v67, v68, v69, v70, v71, v72, v73, v74, v75, v76, v77, v78, v79, v80, v81, v82, v83, v84, v85, v86, v87, v88, v89, v90, v91, v92, v93, v94, v95, v96, v97, v98, v99, v100, v101, v102, v103, v104, v105, v106, v107, v108, v109, v110, v111, v112, v113, v114, v115, v116, v117, v118, v119, v120, v121, v122, v123, v124, v125, v126, v127, v128, v129, v130, v131, v132, v133, v134, v135, v136, v137, v138, v139, v140, v141, v142, v143, v144, v145, v146, v147, v148, v149, v150, v151, v152, v153, v154, v155, v156, v157, v158, v159, v160, v161, v162, v163, v164, v165, v166, v167, v168, v169, v170, v171, v172, v173, v174, v175, v176, v177, v178, v179, v180, v181, v182, v183, v184, v185, v186, v187, v188, v189, v190, v191, v192, v193, v194, v195, v196, v197, v198, v199, v200, v201, v202, v203, v204, v205, v206, v207, v208, v209, v210, v211, v212, v213, v214, v215, v216, v217, v218, v219, v220, v221, v222, v223, v224, v225, v226, v227, v228, v229, v230, v231, v232, v233, v234, v235, v236, v237, v238, v239, v240, v241, v242, v243, v244, v245, v246, v247, v248, v249, v250, v251, v252, v253, v254, v255, v256, v257, v258, v259, v260, v261, v262, v263, v264, v265, v266, v267, v268, v269, v270, v271, v272, v273, v274, v275, v276, v277, v278, v279, v280, v281, v282, v283, v284, v285, v286, v287, v288], []⟩ W := by
  conv => arg 2; whnf
  go_wp2_with fail
  go_loopw [25, 26] (fun c25 c26 wr => ∃ k : Nat, c25 = .bool true ∧ c26 = .int .i64 k ∧ k ≤ ops.length ∧ Hid (Below W.heap.size W wr)) (fun _ i _ => ops.length - (intOf i).toNat)
  case atStart => exact ⟨0, rfl, rfl, Nat.zero_le _, Below.refl _ _⟩
  case round =>
    rename_i K1 hK1
    obtain ⟨k, rfl, rfl, hk, HB⟩ := hrel
    by_cases hlt : k < ops.length
    · obtain ⟨V0, hV0⟩ : ∃ V, V = wr := ⟨_, rfl⟩
      subst hV0
      have hk1 : k + 1 ≤ 7 := by omega
      go_wp2_with fail
      go_loopw [27, 28] (fun c27 c28 wr => ∃ (z : Bool) (j : Nat), c27 = .bool z ∧ c28 = .int .i64 j ∧ k < j ∧ j ≤ ops.length ∧ Hid (Below W.heap.size W wr) ∧ Hid (z = false → ∀ t (ht : t < ops.length), k < t → t < j → ops[t].node ≠ ops[k].node)) (fun _ i _ => ops.length - (intOf i).toNat)
      case atStart => exact ⟨false, k + 1, rfl, by go_num, by omega, by omega, HB, fun _ t ht h1 h2 => by omega⟩
      case round =>
        obtain ⟨z, j, rfl, rfl, hkj, hj, HB2, HN⟩ := hrel
        by_cases hjl : j < ops.length
        · obtain ⟨blk, off, rfl, hcell⟩ := HO.out _ HB2.out (fun h => by rw [h] at hlt; simp at hlt)
          obtain ⟨_, cj⟩ := hcell j ops[j] (by simp [hjl])
          obtain ⟨_, ck⟩ := hcell k ops[k] (by simp [hlt])
          have Hj := Lib.hid (rfl : ops[j].node = ops[j].node)
          have hnk : Hid (∀ n m, ops[j].node = n → ops[k].node = m → ((n == m) = false) → z = false → ∀ t (ht : t < ops.length), k < t → t < j + 1 → ops[t].node ≠ ops[k].node) := by
            show ∀ n m, _ → _ → _ → _ → _
            intro n m h1 h2 h3 h4 t ht h5 h6
            rcases Nat.lt_or_eq_of_le (Nat.le_of_lt_succ h6) with h | rfl
            · exact HN.out h4 t ht h5 h
            · rw [h1, h2]; exact beq_eq_false_iff_ne.1 h3
          obtain ⟨n, hn⟩ := hide ops[j].node
          obtain ⟨m, hm⟩ := hide ops[k].node
          have Hnk := Lib.hid (hnk.out n m hn.out hm.out)
          rw [hn.out] at cj
          rw [hm.out] at ck
          have hj1 : j + 1 ≤ 7 := by omega
          have i1 : decide ((j : Int) < (ops.length : Int)) = true := decide_eq_true (by omega)
          have i2 : decide ((k : Int) < (ops.length : Int)) = true := decide_eq_true (by omega)
          clear hcell Hj hnk
          go_upto_region 40 with fail
          cases z with
          | true =>
            go_quiet (fail)
            go_wp2_with fail
            go_roundw
            case rel => exact ⟨true, j + 1, rfl, by go_num, by omega, by omega, by first | exact HB2.out | exact HB2.out.drewN _ | exact below_drewN HB2.out _, fun h => by cases h⟩
            case measure => simp [intOf]; omega
          | false =>
            cases hq : (n == m)
            all_goals
              go_quiet (fail)
              go_wp2_with fail
              go_roundw
              case rel => exact ⟨_, j + 1, rfl, by go_num, by omega, by omega, by first | exact HB2.out | exact HB2.out.drewN _ | exact below_drewN HB2.out _, fun h => by first | exact Hnk.out hq rfl | cases h⟩
              case measure => simp [intOf]; omega
        · have hjn : j = ops.length := by omega
          have HF : Hid (z = false → wantB ops[k] l.v l.l = true) := fun h => Hw.out k hlt (fun t ht h1 => HN.out h t ht h1 (by omega))
          obtain ⟨V, hV⟩ : ∃ V, V = wr := ⟨_, rfl⟩
          subst hV
          clear hjn HN
          obtain ⟨blk, off, rfl, hcell⟩ := HO.out _ HB2.out (fun h => by rw [h] at hlt; simp at hlt)
          obtain ⟨ck, cn⟩ := hcell k ops[k] (by simp [hlt])
          obtain ⟨o, ho⟩ := hide ops[k]
          rw [ho.out] at ck cn HF
          obtain ⟨kind, node⟩ := o
          have hcc := Lib.hid (fun w' (h : Below W.heap.size W w') => (HO.out w' h (fun h => by rw [h] at hlt; simp at hlt)))
          have i2 : decide ((k : Int) < (ops.length : Int)) = true := decide_eq_true (by omega)
          have Hoo := Lib.hid ho.out
          clear hcell ho
          have HC1 : Hid (∀ w', Below W.heap.size W w' → w'.cell? ⟨blk, off + k * 2, none⟩ = some (.int .i64 kind) ∧ w'.cell? ⟨blk, off + k * 2 + 1, none⟩ = some (.int .i64 node)) := by
            show ∀ w', _ → _
            intro w' h
            obtain ⟨b2, o2, eb2, hc2⟩ := hcc.out w' h
            cases eb2
            have := hc2 k _ (List.getElem?_eq_getElem hlt)
            rw [Hoo.out] at this
            exact this
          have H0 : Hid (Below W.heap.size W V.drew) := HB2.out.drew
          have d0 : V.drew.cell? ⟨L, 0, none⟩ = some la := cell_n (Hl.out _ H0.out).1 0 rfl
          have dn := (HC1.out _ H0.out).2
          clear ck cn
          go_upto_region 41 with fail
          try dsimp only
          go_cut [29] from 213 to 220 (fun c29 wc => c29 = .bool (hasB l.v node) ∧ Hid (Below W.heap.size W wc))
          case first =>
            go_region_held3 (fun w' => w'.cell? ⟨L, 0, none⟩ = some la ∧ w'.cell? ⟨blk, off + k * 2 + 1, none⟩ = some (.int .i64 node)) (first | with_reducible exact ⟨d0, dn⟩ | go_keep) (first
              | (go_at_call 21; (with_reducible refine (keep_has la l.v node _ (Hl.out _ H0.out).2.v).mono ?_); rintro e V3 ⟨rfl, rfl⟩))
            all_goals
              go_wp2_with fail
              go_meet
              exact ⟨rfl, H0⟩
          case rest =>
          obtain ⟨rfl, HB3⟩ := hcut
          obtain ⟨V3, hV3⟩ : ∃ V, V = wc := ⟨_, rfl⟩
          subst hV3
          clear d0 dn H0
          have H0 : Hid (Below W.heap.size W V3.drew) := HB3.out.drew
          have d0 : V3.drew.cell? ⟨L, 2, none⟩ = some ld := cell_n (Hl.out _ H0.out).1 2 rfl
          have dn := (HC1.out _ H0.out).2
          go_upto_region 42 with fail
          try dsimp only
          go_cut [30] from 221 to 228 (fun c30 wc => c30 = .bool (hasB l.l node) ∧ Hid (Below W.heap.size W wc))
          case first =>
            go_region_held3 (fun w' => w'.cell? ⟨L, 2, none⟩ = some ld ∧ w'.cell? ⟨blk, off + k * 2 + 1, none⟩ = some (.int .i64 node)) (first | with_reducible exact ⟨d0, dn⟩ | go_keep) (first
              | (go_at_call 21; (with_reducible refine (keep_has ld l.l node _ (Hl.out _ H0.out).2.l).mono ?_); rintro e V4 ⟨rfl, rfl⟩))
            all_goals
              go_wp2_with fail
              go_meet
              exact ⟨rfl, H0⟩
          case rest =>
          obtain ⟨rfl, HB4⟩ := hcut
          obtain ⟨V4, hV4⟩ : ∃ V, V = wc := ⟨_, rfl⟩
          subst hV4
          clear d0 dn H0
          have ck := (HC1.out _ HB4.out).1
          have Hdw : Hid (wantB ⟨kind, node⟩ l.v l.l = (((kind == 1) && (hasB l.v node && !(hasB l.l node))) || (((kind == 2) && (hasB l.l node && !(hasB l.v node))) || ((kind == 3) && (!(hasB l.v node) && !(hasB l.l node)))))) := rfl
          obtain ⟨zw, hzw⟩ := hide (wantB ⟨kind, node⟩ l.v l.l)
          obtain ⟨zv, hzv⟩ := hide (hasB l.v node)
          obtain ⟨zl, hzl⟩ := hide (hasB l.l node)
          rw [hzw.out, hzv.out, hzl.out] at Hdw
          rw [hzw.out] at HF
          have hk1' : k + 1 ≤ 9223372036854775807 := by omega
          go_upto_region 43 with fail
          try dsimp only
          try rw [hzv.out]
          try rw [hzl.out]
          go_cut [31] from 229 to 272 (fun c31 wc => c31 = .bool zw ∧ wc = V4)
          case first =>
            clear hzw hzv hzl
            cases e1 : (kind == 1) <;> cases e2 : (kind == 2) <;> cases e3 : (kind == 3) <;> cases zv <;> cases zl
            all_goals
              try (exfalso; simp only [beq_iff_eq] at e1 e2 e3; omega)
            all_goals
              have hz := Hdw.out
              rw [e1, e2, e3] at hz
              simp only [Bool.true_and, Bool.false_and, Bool.and_true, Bool.and_false, Bool.or_false, Bool.or_true, Bool.false_or, Bool.true_or, Bool.not_true, Bool.not_false] at hz
              subst hz
              go_wp2_with fail
              go_meet
              exact ⟨rfl, rfl⟩
          case rest =>
          obtain ⟨rfl, rfl⟩ := hcut
          clear ck
          cases z with
          | true =>
            go_wp2_with fail
            go_roundw
            case rel => exact ⟨k + 1, rfl, by go_num, by omega, HB4⟩
            case measure => simp [intOf]; omega
          | false =>
            have hzt := HF.out rfl
            subst hzt
            go_wp2_with fail
            go_roundw
            case rel => exact ⟨k + 1, rfl, by go_num, by omega, HB4⟩
            case measure => simp [intOf]; omega
    · have t0 : decide (k < ops.length) = false := decide_eq_false hlt
      clear hlt hk
      have HP2 : Hid (∀ w', Below wr.heap.size wr w' → post (.returned (.bool true)) w') := fun w' h => HP.out w' (HB.out.trans (h.mono HB.out.size))
      have He2 : Hid (∀ w', Below wr.heap.size wr w' → w'.heap[E]? = some (.cells #[ea, eb, ed] 25 (0, 0)) ∧ Config3 w' ea eb ed d) := fun w' h => He.out w' (HB.out.trans (h.mono HB.out.size))
      have Hl2 : Hid (∀ w', Below wr.heap.size wr w' → w'.heap[L]? = some (.cells #[la, lb, ld] 25 (0, 0)) ∧ Config3 w' la lb ld l) := fun w' h => Hl.out w' (HB.out.trans (h.mono HB.out.size))
      go_upto_if 188 with (fail)
      iterate 12 (first | done | (refine hK1 _ _ ?_; exact meets_last wr post HP2 E L ea eb ed la lb ld d l He2 Hl2 hd hl) | exact meets_last wr post HP2 E L ea eb ed la lb ld d l He2 Hl2 hd hl | go_step)
end Go.Proofs.Ytgdmcbjlfnjhjaa
