/-
  ConfigMeets: the law: the union of all voters; the change ends.
-/
import Derived.Test.YtgdmcbjlfnjhjaaCma
import Derived.Test.YtgdmcbjlfnjhjaaBgh
import Derived.Test.YtgdmcbjlfnjhjaaOw
import Derived.Deep.DeepCutAuto
import Derived.Deep.CutRange
import Derived.Deep.RegionLaw
namespace Go.Proofs.Ytgdmcbjlfnjhjaa
open Go.RowKit Wm Mm
set_option linter.unusedVariables false
set_option linter.unusedSimpArgs false

theorem valid_lens {c : Conf} (h : validB c = true) : c.v.length ≤ 9 ∧ c.n.length ≤ 9 ∧ c.l.length ≤ 9 := by
  obtain ⟨_, h2, h3, h4, _⟩ := validB_iff.1 h
  exact ⟨rising_len h2, rising_len h3, rising_len h4⟩
theorem upG {S : Nat} {w w' : World} {g : Option Nat} (h : w.grownBy w' g) (hg : ∀ k, g = some k → k < S) : Up S w w' := fun k h1 h2 => h.block k h2 (fun e => by have := hg k e.symm; omega)
theorem own_blk {S : Nat} {w : World} {v : Value} {l : List Int} (h : OwnI S w v l) : ∀ k, v.ownBlock = some k → S ≤ k ∧ k < w.heap.size := by
  intro k hk
  rcases h.2 with ⟨rfl, _⟩ | ⟨g, cap, cur, rfl, hb, hh, _⟩
  · cases hk
  · cases hk
    exact ⟨hb, lt_of_block hh⟩
set_option maxHeartbeats 4000000 in
set_option maxRecDepth 100000 in
theorem meets_m2 {v0 v1 v2 v3 v4 v5 v6 v7 v8 v9 v10 v11 v13 v14 v15 v16 v20 v21 v22 v25 v26 v27 v28 v29 v30 v31 v32 v33 v34 v35 v36 v37 v38 v39 v40 v41 v42 v43 v44 v45 v46 v47 v48 v49 v50 v51 v52 v53 v54 v55 v56 v57 v58 v59 v60 v61 v62 v63 v64 v65 v66 v67 v68 v69 v70 v71 v72 v73 v74 v75 v76 v77 v78 v79 v80 v81 v82 v83 v84 v85 v86 v87 v88 v89 v90 v91 v92 v93 v94 v95 v96 v97 v98 v99 v100 v101 v102 v103 v104 v105 v106 v107 v108 v109 v110 v111 v112 v113 v114 v115 v116 v117 v118 v119 v120 v121 v122 v123 v124 v125 v126 v127 v128 v129 v130 v131 v132 v133 v134 v135 v136 v137 v138 v139 v140 v141 v142 v143 v144 v145 v146 v147 v148 v149 v150 v151 v152 v153 v154 v155 v156 v157 v158 v159 v160 v161 v162 v163 v164 v165 v166 v167 v168 v169 v170 v171 v172 v173 v174 v175 v176 v177 v178 v179 v180 v181 v182 v183 v184 v185 v186 v187 v188 v189 v190 v191 v192 v193 v194 v195 v196 v197 v198 v199 v200 v201 v202 v203 v204 v205 v206 v207 v208 v209 v210 v211 v212 v213 v214 v215 v216 v217 v218 v219 v220 v221 v222 v223 v224 v225 v226 v227 v228 v229 v230 v231 v232 v233 v234 v235 v236 v237 v238 v239 v240 v241 v242 v243 v244 v245 v246 v247 v248 v249 v250 v251 v252 v253 v254 v255 v256 v257 v258 v259 v260 v261 v262 v263 v264 v265 v266 v267 v268 v269 v270 v271 v272 v273 v274 v275 v276 v277 v278 v279 v280 v281 v282 v283 v284 v285 v286 v287 v288 : Value} (W : World) (post : Ending → World → Prop) (S : Nat) (g : Option Nat) (vm : Value) (m : List Int) (Hm : Hid (OwnI S W vm m)) (hgm : vm.ownBlock = g) (hS : S ≤ W.heap.size) (hml : m.length ≤ 1048576) (HP : Hid (∀ w', W.grownBy w' g → post (.returned (.bool true)) w'))
    (E L : Nat) (ea eb ed la lb ld : Value) (d l : Conf) (HE : Hid (∀ w', W.grownBy w' g → w'.heap[E]? = some (.cells #[ea, eb, ed] 25 (0, 0)) ∧ Config3 w' ea eb ed d)) (HL : Hid (∀ w', W.grownBy w' g → w'.heap[L]? = some (.cells #[la, lb, ld] 25 (0, 0)) ∧ Config3 w' la lb ld l)) (hd : validB d = true) (hl : validB l = true)
    (ops : List OpP) (ao : Option Addr) (co : Nat) (HO : Hid (∀ w', W.grownBy w' g → ops ≠ [] → ∃ b off, ao = some ⟨b, off, none⟩ ∧ ∀ j o, ops[j]? = some o → w'.cell? ⟨b, off + j * 2, none⟩ = some (.int .i64 o.kind) ∧ w'.cell? ⟨b, off + j * 2 + 1, none⟩ = some (.int .i64 o.node)))
    (va vb : Value) (pa pb : List Int) (HA : Hid (∀ w', W.grownBy w' g → Ints w' va pa)) (HB : Hid (∀ w', W.grownBy w' g → Ints w' vb pb)) (hol : ops.length ≤ 6) (Hw : Hid (∀ i (hi : i < ops.length), (∀ k (hk : k < ops.length), i < k → ops[k].node ≠ ops[i].node) → wantB ops[i] l.v l.l = true))
    (Hmeet : quorumB d pa = true → quorumB l pb = true → meetB pa pb (m ++ l.v) = true) :
    Code.wp Try.prog ((Try.f4.body.bind (seqAt 29)).getD .skip) (bodyPost Try.prog Try.f4 post) ⟨#[v0, v1, v2, v3, v4, v5, v6, v7, v8, v9, v10, v11, .slice ao ops.length co, v13, v14, v15, v16, va, vb, .pointer (some ⟨E, 0, none⟩), v20, v21, v22, vm, .pointer (some ⟨L, 0, none⟩), v25, v26, v27, v28, v29, v30, v31, v32, v33, v34, v35, v36, v37, v38, v39, v40, v41, v42, v43, v44, v45, v46, v47, v48, v49, v50, v51, v52, v53, v54, v55, v56, v57, v58, v59, v60, v61, v62, v63, v64, v65, v66, v67, v68, v69, v70, v71, v72, v73, v74, v75, v76, v77, v78, v79, v80, v81, v82, v83, v84, v85, v86, v87, v88, v89, v90, v91, v92, v93, v94, v95, v96, v97, v98, v99, v100, v101, v102, v103, v104, v105, v106, v107, v108, v109, v110, v111, v112, v113, v114, v115, v116, v117, v118, v119, v120, v121, v122, v123, v124, v125, v126, v127, v128, v129, v130, v131, v132, v133, v134, v135, v136, v137, v138, v139, v140, v141, v142, v143, v144, v145, v146, v147, v148, v149, v150, v151, v152, v153, v154, v155, v156, v157, v158, v159, v160, v161, v162, v163, v164, v165, v166, v167, v168, v169, v170, v171, v172, v173, v174, v175, v176, v177, v178, v179, v180, v181, v182, v183, v184, v185, v186, v187, v188, v189, v190, v191, v192, v193, v194, v195, v196, v197, v198, v199, v200, v201, v202, v203, v204, v205, v206, v207, v208, v209, v210, v211, v212, v213, v214, v215, v216, v217, v218, v219, v220, v221, v222, v223, v224, v225, v226, v227, v228, v229, v230, v231, v232, v233, v234, v235, v236, v237, v238, v239, v240, v241, v242, v243, v244, v245, v246, v247, v248, v249, v250, v251, v252, v253, v254, v255, v256, v257, v258, v259, v260, v261, v262, v263, v264, v265, v266, v267, v268, v269, v270, v271, v272, v273, v274, v275, v276, v277, v278, v279, v280, v281, v282, v283, v284, v285, v286, v287, v288], []⟩ W := by
  conv => arg 2; whnf
  obtain ⟨hd1, hd2, hd3⟩ := valid_lens hd
  obtain ⟨hl1, hl2, hl3⟩ := valid_lens hl
  have G0 := grown_same W g
  have c0 : W.cell? ⟨L, 0, none⟩ = some la := cell_n (HL.out W G0).1 0 rfl
  have Hsrc := Lib.hid (src_intsU (P := Try.prog) (tx := 22) Try.underlying22 (HL.out W G0).2.v)
  obtain ⟨a23, c23, rfl⟩ := owns_slice Hm.out
  have Hb63 : Hid (m.length + l.v.length ≤ maxLen) := by show _ ≤ _; unfold maxLen; omega
  have Hb48 : Hid ((m.length + l.v.length) * 8 ≤ 140737488355328) := by show _ ≤ _; omega
  go_wp2_with (at_builtin; refine wpList_append_src rfl _ _ 22 22 rfl S 3 (.int .i64 0) 1 8 Try.underlying22 info_intU rfl _ _ _ rfl Hm.out _ _ _ rfl Hsrc.out Hb63.out Hb48.out hS ?_)
  intro v2 w2 ho hg
  have Hg2 : Hid (W.grownBy w2 g) := by
    show World.grownBy _ _ _
    first | exact hg | (rw [← hgm]; exact hg)
  have Hm2 : Hid (Ints w2 v2 (m ++ l.v)) := by
    show Ints _ _ _
    refine Ints.of_own (base := S) (e := 3) (n := m.length + l.v.length) ?_
    rw [List.map_append]; exact ho
  have HT : Hid (∀ w3, W.grownBy w3 g → (∀ w', Below w3.heap.size w3 w' → W.grownBy w' g)) := fun w3 h w' hb => grown_trans h (Mm.below_grown hb g)
  clear ho hg c0 hml
  have x0 := (HE.out _ Hg2.out).1
  have c0 : w2.cell? ⟨E, 0, none⟩ = some ea := cell_n x0 0 rfl
  have c1 : w2.cell? ⟨E, 1, none⟩ = some eb := cell_n x0 1 rfl
  have c2 : w2.cell? ⟨E, 2, none⟩ = some ed := cell_n x0 2 rfl
  clear x0
  have HQ1 := Lib.hid (quorum_law ea eb ed va d pa w2 (HE.out _ Hg2.out).2 (HA.out _ Hg2.out) (by omega) (by omega))
  obtain ⟨q1, hq1⟩ := hide (quorumB d pa)
  obtain ⟨q2, hq2⟩ := hide (quorumB l pb)
  rw [hq1.out] at HQ1
  have HQ2 : Hid (∀ w', W.grownBy w' g → Calls Try.prog 14 #[.agg #[la, lb, ld], vb] w' fun e w'' => e = .returned (.bool q2) ∧ Below w'.heap.size w' w'') := by
    show ∀ w', _ → _
    intro w' h
    rw [← hq2.out]
    exact quorum_law la lb ld vb l pb w' (HL.out _ h).2 (HB.out _ h) (by omega) (by omega)
  go_wp2_with fail
  refine HQ1.out.mono ?_
  rintro e w3 ⟨rfl, hb3⟩
  have Hg3 := Lib.hid (grown_trans Hg2.out (Mm.below_grown hb3 g))
  have Hm3 := Lib.hid (Hm2.out.mono hb3)
  clear hb3 c0 c1 c2
  cases q1 with
  | false =>
    go_upto_if 184 with (fail)
    have HP2 : Hid (∀ w', Below w3.heap.size w3 w' → post (.returned (.bool true)) w') := fun w' h => HP.out w' (HT.out _ Hg3.out _ h)
    have HE2 : Hid (∀ w', Below w3.heap.size w3 w' → w'.heap[E]? = some (.cells #[ea, eb, ed] 25 (0, 0)) ∧ Config3 w' ea eb ed d) := fun w' h => HE.out w' (HT.out _ Hg3.out _ h)
    have HL2 : Hid (∀ w', Below w3.heap.size w3 w' → w'.heap[L]? = some (.cells #[la, lb, ld] 25 (0, 0)) ∧ Config3 w' la lb ld l) := fun w' h => HL.out w' (HT.out _ Hg3.out _ h)
    have HO2 : Hid (∀ w', Below w3.heap.size w3 w' → ops ≠ [] → ∃ b off, ao = some ⟨b, off, none⟩ ∧ ∀ j o, ops[j]? = some o → w'.cell? ⟨b, off + j * 2, none⟩ = some (.int .i64 o.kind) ∧ w'.cell? ⟨b, off + j * 2 + 1, none⟩ = some (.int .i64 o.node)) := fun w' h => HO.out w' (HT.out _ Hg3.out _ h)
    iterate 12 (first | done | exact meets_loops w3 post HP2 E L ea eb ed la lb ld d l HE2 HL2 hd hl ops ao co HO2 hol Hw | go_step)
  | true =>
  have x0 := (HL.out _ Hg3.out).1
  have c0 : w3.cell? ⟨L, 0, none⟩ = some la := cell_n x0 0 rfl
  have c1 : w3.cell? ⟨L, 1, none⟩ = some lb := cell_n x0 1 rfl
  have c2 : w3.cell? ⟨L, 2, none⟩ = some ld := cell_n x0 2 rfl
  clear x0
  go_wp2_with fail
  refine (HQ2.out _ Hg3.out).mono ?_
  rintro e w4 ⟨rfl, hb4⟩
  have Hg4 := Lib.hid (grown_trans Hg3.out (Mm.below_grown hb4 g))
  have Hm4 := Lib.hid (Hm3.out.mono hb4)
  clear hb4 c0 c1 c2
  cases q2 with
  | false =>
    go_upto_if 184 with (fail)
    have HP2 : Hid (∀ w', Below w4.heap.size w4 w' → post (.returned (.bool true)) w') := fun w' h => HP.out w' (HT.out _ Hg4.out _ h)
    have HE2 : Hid (∀ w', Below w4.heap.size w4 w' → w'.heap[E]? = some (.cells #[ea, eb, ed] 25 (0, 0)) ∧ Config3 w' ea eb ed d) := fun w' h => HE.out w' (HT.out _ Hg4.out _ h)
    have HL2 : Hid (∀ w', Below w4.heap.size w4 w' → w'.heap[L]? = some (.cells #[la, lb, ld] 25 (0, 0)) ∧ Config3 w' la lb ld l) := fun w' h => HL.out w' (HT.out _ Hg4.out _ h)
    have HO2 : Hid (∀ w', Below w4.heap.size w4 w' → ops ≠ [] → ∃ b off, ao = some ⟨b, off, none⟩ ∧ ∀ j o, ops[j]? = some o → w'.cell? ⟨b, off + j * 2, none⟩ = some (.int .i64 o.kind) ∧ w'.cell? ⟨b, off + j * 2 + 1, none⟩ = some (.int .i64 o.node)) := fun w' h => HO.out w' (HT.out _ Hg4.out _ h)
    iterate 12 (first | done | exact meets_loops w4 post HP2 E L ea eb ed la lb ld d l HE2 HL2 hd hl ops ao co HO2 hol Hw | go_step)
  | true =>
  have HM := keep_meet va vb v2 pa pb (m ++ l.v) w4 (HA.out _ Hg4.out) (HB.out _ Hg4.out) Hm4.out
  rw [Hmeet hq1.out hq2.out] at HM
  have HM := Lib.hid HM
  go_wp2_with fail
  refine HM.out.mono ?_
  rintro e w5 ⟨rfl, rfl⟩
  go_upto_if 184 with (fail)
  have HP2 : Hid (∀ w', Below w4.heap.size w4 w' → post (.returned (.bool true)) w') := fun w' h => HP.out w' (HT.out _ Hg4.out _ h)
  have HE2 : Hid (∀ w', Below w4.heap.size w4 w' → w'.heap[E]? = some (.cells #[ea, eb, ed] 25 (0, 0)) ∧ Config3 w' ea eb ed d) := fun w' h => HE.out w' (HT.out _ Hg4.out _ h)
  have HL2 : Hid (∀ w', Below w4.heap.size w4 w' → w'.heap[L]? = some (.cells #[la, lb, ld] 25 (0, 0)) ∧ Config3 w' la lb ld l) := fun w' h => HL.out w' (HT.out _ Hg4.out _ h)
  have HO2 : Hid (∀ w', Below w4.heap.size w4 w' → ops ≠ [] → ∃ b off, ao = some ⟨b, off, none⟩ ∧ ∀ j o, ops[j]? = some o → w'.cell? ⟨b, off + j * 2, none⟩ = some (.int .i64 o.kind) ∧ w'.cell? ⟨b, off + j * 2 + 1, none⟩ = some (.int .i64 o.node)) := fun w' h => HO.out w' (HT.out _ Hg4.out _ h)
  iterate 12 (first | done | exact meets_loops w4 post HP2 E L ea eb ed la lb ld d l HE2 HL2 hd hl ops ao co HO2 hol Hw | go_step)

theorem setFrom_grownB (b : Nat) : ∀ (vs : List Value) (w : World) (i : Nat), w.grownBy (setFrom w b i vs) (some b)
  | [], w, _ => grown_same w _
  | v :: vs, w, i => grown_trans (grown_setCell w ⟨b, i, none⟩ v) (setFrom_grownB b vs _ (i + 1))
theorem lastP_no {d : Conf} (h : ¬ 0 < d.n.length) : lastP d = d := by rw [lastP, if_neg h]
theorem lastP_yes {d : Conf} (hd : validB d = true) (h : 0 < d.n.length) : lastP d = ⟨d.n, [], d.l⟩ := by rw [lastP, if_pos h, finishP_ok hd h]
set_option maxHeartbeats 4000000 in
set_option maxRecDepth 100000 in
theorem meets_fin {v0 v1 v2 v3 v4 v5 v6 v7 v8 v9 v10 v11 v13 v14 v15 v16 v21 v22 v24 v25 v26 v27 v28 v29 v30 v31 v32 v33 v34 v35 v36 v37 v38 v39 v40 v41 v42 v43 v44 v45 v46 v47 v48 v49 v50 v51 v52 v53 v54 v55 v56 v57 v58 v59 v60 v61 v62 v63 v64 v65 v66 v67 v68 v69 v70 v71 v72 v73 v74 v75 v76 v77 v78 v79 v80 v81 v82 v83 v84 v85 v86 v87 v88 v89 v90 v91 v92 v93 v94 v95 v96 v97 v98 v99 v100 v101 v102 v103 v104 v105 v106 v107 v108 v109 v110 v111 v112 v113 v114 v115 v116 v117 v118 v119 v120 v121 v122 v123 v124 v125 v126 v127 v128 v129 v130 v131 v132 v133 v134 v135 v136 v137 v138 v139 v140 v141 v142 v143 v144 v145 v146 v147 v148 v149 v150 v151 v152 v153 v154 v155 v156 v157 v158 v159 v160 v161 v162 v163 v164 v165 v166 v167 v168 v169 v170 v171 v172 v173 v174 v175 v176 v177 v178 v179 v180 v181 v182 v183 v184 v185 v186 v187 v188 v189 v190 v191 v192 v193 v194 v195 v196 v197 v198 v199 v200 v201 v202 v203 v204 v205 v206 v207 v208 v209 v210 v211 v212 v213 v214 v215 v216 v217 v218 v219 v220 v221 v222 v223 v224 v225 v226 v227 v228 v229 v230 v231 v232 v233 v234 v235 v236 v237 v238 v239 v240 v241 v242 v243 v244 v245 v246 v247 v248 v249 v250 v251 v252 v253 v254 v255 v256 v257 v258 v259 v260 v261 v262 v263 v264 v265 v266 v267 v268 v269 v270 v271 v272 v273 v274 v275 v276 v277 v278 v279 v280 v281 v282 v283 v284 v285 v286 v287 v288 : Value} (W : World) (post : Ending → World → Prop) (S : Nat) (g : Option Nat) (vm : Value) (m : List Int) (Hm : Hid (OwnI S W vm m)) (hgm : vm.ownBlock = g) (hS : S ≤ W.heap.size) (hml : m.length ≤ 1048576) (HP : Hid (∀ w', W.grownBy w' g → post (.returned (.bool true)) w'))
    (E : Nat) (ea eb ed : Value) (d : Conf) (HE : Hid (∀ w', W.grownBy w' g → w'.heap[E]? = some (.cells #[ea, eb, ed] 25 (0, 0)) ∧ Config3 w' ea eb ed d)) (hd : validB d = true) (hlast : validB (lastP d) = true)
    (ops : List OpP) (ao : Option Addr) (co : Nat) (HO : Hid (∀ w', W.grownBy w' g → ops ≠ [] → ∃ b off, ao = some ⟨b, off, none⟩ ∧ ∀ j o, ops[j]? = some o → w'.cell? ⟨b, off + j * 2, none⟩ = some (.int .i64 o.kind) ∧ w'.cell? ⟨b, off + j * 2 + 1, none⟩ = some (.int .i64 o.node)))
    (va vb : Value) (pa pb : List Int) (HA : Hid (∀ w', W.grownBy w' g → Ints w' va pa)) (HB : Hid (∀ w', W.grownBy w' g → Ints w' vb pb)) (hol : ops.length ≤ 6) (Hw : Hid (∀ i (hi : i < ops.length), (∀ k (hk : k < ops.length), i < k → ops[k].node ≠ ops[i].node) → wantB ops[i] (lastP d).v (lastP d).l = true))
    (Hmeet : quorumB d pa = true → quorumB (lastP d) pb = true → meetB pa pb (m ++ (lastP d).v) = true) :
    Code.wp Try.prog ((Try.f4.body.bind (seqAt 24)).getD .skip) (bodyPost Try.prog Try.f4 post) ⟨#[v0, v1, v2, v3, v4, v5, v6, v7, v8, v9, v10, v11, .slice ao ops.length co, v13, v14, v15, v16, va, vb, .pointer (some ⟨E, 0, none⟩), .int .i64 0, v21, v22, vm, v24, v25, v26, v27, v28, v29, v30, v31, v32, v33, v34, v35, v36, v37, v38, v39, v40, v41, v42, v43, v44, v45, v46, v47, v48, v49, v50, v51, v52, v53, v54, v55, v56, v57, v58, v59, v60, v61, v62, v63, v64, v65, v66, v67, v68, v69, v70, v71, v72, v73, v74, v75, v76, v77, v78, v79, v80, v81, v82, v83, v84, v85, v86, v87, v88, v89, v90, v91, v92, v93, v94, v95, v96, v97, v98, v99, v100, v101, v102, v103, v104, v105, v106, v107, v108, v109, v110, v111, v112, v113, v114, v115, v116, v117, v118, v119, v120, v121, v122, v123, v124, v125, v126, v127, v128, v129, v130, v131, v132, v133, v134, v135, v136, v137, v138, v139, v140, v141, v142, v143, v144, v145, v146, v147, v148, v149, v150, v151, v152, v153, v154, v155, v156, v157, v158, v159, v160, v161, v162, v163, v164, v165, v166, v167, v168, v169, v170, v171, v172, v173, v174, v175, v176, v177, v178, v179, v180, v181, v182, v183, v184, v185, v186, v187, v188, v189, v190, v191, v192, v193, v194, v195, v196, v197, v198, v199, v200, v201, v202, v203, v204, v205, v206, v207, v208, v209, v210, v211, v212, v213, v214, v215, v216, v217, v218, v219, v220, v221, v222, v223, v224, v225, v226, v227, v228, v229, v230, v231, v232, v233, v234, v235, v236, v237, v238, v239, v240, v241, v242, v243, v244, v245, v246, v247, v248, v249, v250, v251, v252, v253, v254, v255, v256, v257, v258, v259, v260, v261, v262, v263, v264, v265, v266, v267, v268, v269, v270, v271, v272, v273, v274, v275, v276, v277, v278, v279, v280, v281, v282, v283, v284, v285, v286, v287, v288], []⟩ W := by
  conv => arg 2; whnf
  obtain ⟨hd1, hd2, hd3⟩ := valid_lens hd
  obtain ⟨x1, y1, rfl, _⟩ := len_of_Ints (HE.out W (grown_same W g)).2.v
  obtain ⟨x2, y2, rfl, _⟩ := len_of_Ints (HE.out W (grown_same W g)).2.n
  obtain ⟨x3, y3, rfl, _⟩ := len_of_Ints (HE.out W (grown_same W g)).2.l
  have hg1 : W.grownBy (W.alloc (.cells #[(.slice x1 d.v.length y1), (.slice x2 d.n.length y2), (.slice x3 d.l.length y3)] 25)) g := World.grownBy_alloc W _ g
  have hx : (W.alloc (.cells #[(.slice x1 d.v.length y1), (.slice x2 d.n.length y2), (.slice x3 d.l.length y3)] 25)).heap[W.heap.size]? = some (.cells #[(.slice x1 d.v.length y1), (.slice x2 d.n.length y2), (.slice x3 d.l.length y3)] 25 (0, 0)) := hp_at _ _ rfl
  have Hgk : Hid (∀ k, g = some k → S ≤ k ∧ k < W.heap.size) := by
    show ∀ k, _ → _
    rw [← hgm]; exact own_blk Hm.out
  obtain ⟨W1, hW1⟩ := hide (W.alloc (.cells #[(.slice x1 d.v.length y1), (.slice x2 d.n.length y2), (.slice x3 d.l.length y3)] 25))
  rw [hW1.out] at hg1 hx
  obtain ⟨L, hL⟩ := hide W.heap.size
  rw [hL.out] at hx Hgk
  have HLb : Hid (∀ w', W1.grownBy w' g → w'.heap[L]? = some (.cells #[(.slice x1 d.v.length y1), (.slice x2 d.n.length y2), (.slice x3 d.l.length y3)] 25 (0, 0))) := by
    show ∀ w', _ → _
    intro w' h
    exact (h.block L (lt_of_block hx) (fun e => by have := (Hgk.out L e.symm).2; omega)).trans hx
  have Hg1 := Lib.hid hg1
  have HLW := lt_of_block hx
  have HJ := Lib.hid (config_joint (.slice x1 d.v.length y1) (.slice x2 d.n.length y2) (.slice x3 d.l.length y3) d W1 (HE.out W1 hg1).2)
  have hs1 := hg1.size
  have Hm1 : Hid (OwnI S W1 vm m) := by show World.ownsRow _ _ _ _ _ _ _; rw [← hW1.out]; exact Hm.out.alloc _
  clear hx hg1
  have x0 := (HE.out _ (grown_same W g)).1
  have c0 : W.cell? ⟨E, 0, none⟩ = some (.slice x1 d.v.length y1) := cell_n x0 0 rfl
  have c1 : W.cell? ⟨E, 1, none⟩ = some (.slice x2 d.n.length y2) := cell_n x0 1 rfl
  have c2 : W.cell? ⟨E, 2, none⟩ = some (.slice x3 d.l.length y3) := cell_n x0 2 rfl
  clear x0
  go_upto_region 25 with fail
  rw [hW1.out, hL.out]
  clear c0 c1 c2
  have x0 := (HE.out _ Hg1.out).1
  have c0 : W1.cell? ⟨E, 0, none⟩ = some (.slice x1 d.v.length y1) := cell_n x0 0 rfl
  have c1 : W1.cell? ⟨E, 1, none⟩ = some (.slice x2 d.n.length y2) := cell_n x0 1 rfl
  have c2 : W1.cell? ⟨E, 2, none⟩ = some (.slice x3 d.l.length y3) := cell_n x0 2 rfl
  clear x0
  obtain ⟨j, hj⟩ := hide (decide (0 < d.n.length))
  rw [hj.out] at HJ
  go_wp2_with fail
  refine HJ.out.mono ?_
  rintro e w2 ⟨rfl, hb2⟩
  have Hg2 := Lib.hid (grown_trans Hg1.out (Mm.below_grown hb2 g))
  have Hg12 := Lib.hid (Mm.below_grown hb2 g)
  have Hm2 : Hid (OwnI S w2 vm m) := own_below Hm1.out hb2
  have hL2 : L < w2.heap.size := Nat.lt_of_lt_of_le HLW hb2.size
  have hS2 : S ≤ w2.heap.size := Nat.le_trans hS (Nat.le_trans hs1 hb2.size)
  clear hb2 c0 c1 c2
  cases j with
  | false =>
    have hld := lastP_no (of_decide_eq_false hj.out)
    rw [hld] at Hw Hmeet
    have HP2 : Hid (∀ w', w2.grownBy w' g → post (.returned (.bool true)) w') := fun w' h => HP.out w' (grown_trans Hg2.out h)
    have HE2 : Hid (∀ w', w2.grownBy w' g → w'.heap[E]? = some (.cells #[(.slice x1 d.v.length y1), (.slice x2 d.n.length y2), (.slice x3 d.l.length y3)] 25 (0, 0)) ∧ Config3 w' (.slice x1 d.v.length y1) (.slice x2 d.n.length y2) (.slice x3 d.l.length y3) d) := fun w' h => HE.out w' (grown_trans Hg2.out h)
    have HL2 : Hid (∀ w', w2.grownBy w' g → w'.heap[L]? = some (.cells #[(.slice x1 d.v.length y1), (.slice x2 d.n.length y2), (.slice x3 d.l.length y3)] 25 (0, 0)) ∧ Config3 w' (.slice x1 d.v.length y1) (.slice x2 d.n.length y2) (.slice x3 d.l.length y3) d) := fun w' h => ⟨HLb.out w' (grown_trans Hg12.out h), (HE2.out w' h).2⟩
    have HO2 : Hid (∀ w', w2.grownBy w' g → ops ≠ [] → ∃ b off, ao = some ⟨b, off, none⟩ ∧ ∀ j o, ops[j]? = some o → w'.cell? ⟨b, off + j * 2, none⟩ = some (.int .i64 o.kind) ∧ w'.cell? ⟨b, off + j * 2 + 1, none⟩ = some (.int .i64 o.node)) := fun w' h => HO.out w' (grown_trans Hg2.out h)
    have HA2 : Hid (∀ w', w2.grownBy w' g → Ints w' va pa) := fun w' h => HA.out w' (grown_trans Hg2.out h)
    have HB2 : Hid (∀ w', w2.grownBy w' g → Ints w' vb pb) := fun w' h => HB.out w' (grown_trans Hg2.out h)
    go_upto_if 158 with (fail)
    iterate 12 (first | done | exact meets_m2 w2 post S g vm m Hm2 hgm hS2 hml HP2 E L (.slice x1 d.v.length y1) (.slice x2 d.n.length y2) (.slice x3 d.l.length y3) (.slice x1 d.v.length y1) (.slice x2 d.n.length y2) (.slice x3 d.l.length y3) d d HE2 HL2 hd hd ops ao co HO2 va vb pa pb HA2 HB2 hol Hw Hmeet | go_step)
  | true =>
    have hld := lastP_yes hd (of_decide_eq_true hj.out)
    rw [hld] at Hw Hmeet hlast
    have HF := finish_law (.slice x1 d.v.length y1) (.slice x2 d.n.length y2) (.slice x3 d.l.length y3) d w2 (HE.out _ Hg2.out).2 (by omega) (by omega)
    rw [finishP_ok hd (of_decide_eq_true hj.out)] at HF
    have HF := Lib.hid HF
    have x0 := (HE.out _ Hg2.out).1
    have c0 : w2.cell? ⟨E, 0, none⟩ = some (.slice x1 d.v.length y1) := cell_n x0 0 rfl
    have c1 : w2.cell? ⟨E, 1, none⟩ = some (.slice x2 d.n.length y2) := cell_n x0 1 rfl
    have c2 : w2.cell? ⟨E, 2, none⟩ = some (.slice x3 d.l.length y3) := cell_n x0 2 rfl
    clear x0
    go_wp2_with fail
    refine HF.out.mono ?_
    rintro e w3 ⟨fa, fb, fd, rfl, hcf, hb3⟩
    have hcf : Config3F w2.heap.size w3 fa fb fd ⟨d.n, [], d.l⟩ := hcf
    obtain ⟨u1, z1, rfl⟩ : ∃ a k, fa = .slice a d.n.length k := hcf.v.len
    obtain ⟨u2, z2, rfl⟩ : ∃ a k, fb = .slice a 0 k := hcf.n.len
    obtain ⟨u3, z3, rfl⟩ : ∃ a k, fd = .slice a d.l.length k := hcf.l.len
    have yb := HLb.out _ (grown_trans Hg12.out (Mm.below_grown hb3 g))
    have q0 : w3.cell? ⟨L, 0, none⟩ = some (.slice x1 d.v.length y1) := cell_n yb 0 rfl
    have q1 : w3.cell? ⟨L, 1, none⟩ = some (.slice x2 d.n.length y2) := cell_n yb 1 rfl
    have q2 : w3.cell? ⟨L, 2, none⟩ = some (.slice x3 d.l.length y3) := cell_n yb 2 rfl
    have f0 := free_n yb 0
    have f1 := free_n yb 1
    have f2 := free_n yb 2
    have hgL : w3.grownBy (setAll w3 L [(.slice u1 d.n.length z1), (.slice u2 0 z2), (.slice u3 d.l.length z3)]) (some L) := setFrom_grownB L _ w3 0
    have HE9 : Hid ((setAll w3 L [(.slice u1 d.n.length z1), (.slice u2 0 z2), (.slice u3 d.l.length z3)]).heap[L]? = some (.cells #[(.slice u1 d.n.length z1), (.slice u2 0 z2), (.slice u3 d.l.length z3)] 25 (0, 0))) := setAll_at (xs := [(.slice x1 d.v.length y1), (.slice x2 d.n.length y2), (.slice x3 d.l.length y3)]) yb [(.slice u1 d.n.length z1), (.slice u2 0 z2), (.slice u3 d.l.length z3)] rfl
    have hg3 := grown_trans Hg2.out (Mm.below_grown hb3 g)
    have Hg9 : Hid (W.grownBy (setAll w3 L [(.slice u1 d.n.length z1), (.slice u2 0 z2), (.slice u3 d.l.length z3)]) g) := setAll_grown hg3 (by rw [← hL.out]; exact Nat.le_refl _) _
    have hL3 : L < w3.heap.size := Nat.lt_of_lt_of_le hL2 hb3.size
    have Hm9 : Hid (OwnI S (setAll w3 L [(.slice u1 d.n.length z1), (.slice u2 0 z2), (.slice u3 d.l.length z3)]) vm m) := by
      show World.ownsRow _ _ _ _ _ _ _
      exact (own_below Hm2.out hb3).kept hgL (by rw [hgm]; exact Or.inr (fun e => by have := (Hgk.out L e).2; omega))
    have Hcf9 : Hid (Config3F w2.heap.size (setAll w3 L [(.slice u1 d.n.length z1), (.slice u2 0 z2), (.slice u3 d.l.length z3)]) (.slice u1 d.n.length z1) (.slice u2 0 z2) (.slice u3 d.l.length z3) ⟨d.n, [], d.l⟩) := hcf.up (Up.setAll w2.heap.size w3 hL2 _) (Nat.le_refl _)
    have hS9 : S ≤ (setAll w3 L [(.slice u1 d.n.length z1), (.slice u2 0 z2), (.slice u3 d.l.length z3)]).heap.size := Nat.le_trans hS Hg9.out.size
    have hL9 : L < (setAll w3 L [(.slice u1 d.n.length z1), (.slice u2 0 z2), (.slice u3 d.l.length z3)]).heap.size := lt_of_block HE9.out
    clear c0 c1 c2 yb hgL hg3 hb3 hcf
    go_upto_region 27 with fail
    change Code.wp _ _ _ _ (setAll w3 L [(.slice u1 d.n.length z1), (.slice u2 0 z2), (.slice u3 d.l.length z3)])
    generalize setAll w3 L [(.slice u1 d.n.length z1), (.slice u2 0 z2), (.slice u3 d.l.length z3)] = w9 at HE9 Hg9 Hm9 Hcf9 hS9 hL9 ⊢
    clear q0 q1 q2 f0 f1 f2
    have HP2 : Hid (∀ w', w9.grownBy w' g → post (.returned (.bool true)) w') := fun w' h => HP.out w' (grown_trans Hg9.out h)
    have HE2 : Hid (∀ w', w9.grownBy w' g → w'.heap[E]? = some (.cells #[(.slice x1 d.v.length y1), (.slice x2 d.n.length y2), (.slice x3 d.l.length y3)] 25 (0, 0)) ∧ Config3 w' (.slice x1 d.v.length y1) (.slice x2 d.n.length y2) (.slice x3 d.l.length y3) d) := fun w' h => HE.out w' (grown_trans Hg9.out h)
    have HL2 : Hid (∀ w', w9.grownBy w' g → w'.heap[L]? = some (.cells #[(.slice u1 d.n.length z1), (.slice u2 0 z2), (.slice u3 d.l.length z3)] 25 (0, 0)) ∧ Config3 w' (.slice u1 d.n.length z1) (.slice u2 0 z2) (.slice u3 d.l.length z3) ⟨d.n, [], d.l⟩) := fun w' h => ⟨(h.block L hL9 (fun e => by have := (Hgk.out L e.symm).2; omega)).trans HE9.out, (Hcf9.out.up (upG h (fun k e => by have := (Hgk.out k e).2; omega)) (Nat.le_refl _)).conf⟩
    have HO2 : Hid (∀ w', w9.grownBy w' g → ops ≠ [] → ∃ b off, ao = some ⟨b, off, none⟩ ∧ ∀ j o, ops[j]? = some o → w'.cell? ⟨b, off + j * 2, none⟩ = some (.int .i64 o.kind) ∧ w'.cell? ⟨b, off + j * 2 + 1, none⟩ = some (.int .i64 o.node)) := fun w' h => HO.out w' (grown_trans Hg9.out h)
    have HA2 : Hid (∀ w', w9.grownBy w' g → Ints w' va pa) := fun w' h => HA.out w' (grown_trans Hg9.out h)
    have HB2 : Hid (∀ w', w9.grownBy w' g → Ints w' vb pb) := fun w' h => HB.out w' (grown_trans Hg9.out h)
    go_upto_if 165 with (fail)
    iterate 12 (first | done | exact meets_m2 w9 post S g vm m Hm9 hgm hS9 hml HP2 E L (.slice x1 d.v.length y1) (.slice x2 d.n.length y2) (.slice x3 d.l.length y3) (.slice u1 d.n.length z1) (.slice u2 0 z2) (.slice u3 d.l.length z3) d ⟨d.n, [], d.l⟩ HE2 HL2 hd hlast ops ao co HO2 va vb pa pb HA2 HB2 hol Hw Hmeet | go_step)
end Go.Proofs.Ytgdmcbjlfnjhjaa
