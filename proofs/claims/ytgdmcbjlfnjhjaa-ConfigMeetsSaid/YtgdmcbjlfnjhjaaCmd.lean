/-
  ConfigMeets: the law: a change is begun.
-/
import Derived.Test.YtgdmcbjlfnjhjaaCmc
import Derived.Deep.DeepCutAuto
import Derived.Deep.CutRange
namespace Go.Proofs.Ytgdmcbjlfnjhjaa
open Go.RowKit Wm Mm
set_option linter.unusedVariables false
set_option linter.unusedSimpArgs false

theorem begin_len {c d : Conf} {ops : List OpP} (h : beginP c ops = (0, d)) : ops.length ≤ 6 := by
  unfold beginP at h
  split at h
  · cases h
  split at h
  · cases h
  split at h
  · cases h
  rename_i h1
  omega
theorem first_begin : beginP ⟨[1, 2], [], []⟩ [⟨3, 1⟩] = (0, ⟨[1, 2], [2], []⟩) := by rfl
set_option maxHeartbeats 4000000 in
set_option maxRecDepth 100000 in
theorem meets_begin {v0 v1 v2 v3 v4 v5 v6 v7 v8 v9 v10 v13 v14 v15 v16 v19 v20 v21 v22 v23 v24 v25 v26 v27 v28 v29 v30 v31 v32 v33 v34 v35 v36 v37 v38 v39 v40 v41 v42 v43 v44 v45 v46 v47 v48 v49 v50 v51 v52 v53 v54 v55 v56 v57 v58 v59 v60 v61 v62 v63 v64 v65 v66 v67 v68 v69 v70 v71 v72 v73 v74 v75 v76 v77 v78 v79 v80 v81 v82 v83 v84 v85 v86 v87 v88 v89 v90 v91 v92 v93 v94 v95 v96 v97 v98 v99 v100 v101 v102 v103 v104 v105 v106 v107 v108 v109 v110 v111 v112 v113 v114 v115 v116 v117 v118 v119 v120 v121 v122 v123 v124 v125 v126 v127 v128 v129 v130 v131 v132 v133 v134 v135 v136 v137 v138 v139 v140 v141 v142 v143 v144 v145 v146 v147 v148 v149 v150 v151 v152 v153 v154 v155 v156 v157 v158 v159 v160 v161 v162 v163 v164 v165 v166 v167 v168 v169 v170 v171 v172 v173 v174 v175 v176 v177 v178 v179 v180 v181 v182 v183 v184 v185 v186 v187 v188 v189 v190 v191 v192 v193 v194 v195 v196 v197 v198 v199 v200 v201 v202 v203 v204 v205 v206 v207 v208 v209 v210 v211 v212 v213 v214 v215 v216 v217 v218 v219 v220 v221 v222 v223 v224 v225 v226 v227 v228 v229 v230 v231 v232 v233 v234 v235 v236 v237 v238 v239 v240 v241 v242 v243 v244 v245 v246 v247 v248 v249 v250 v251 v252 v253 v254 v255 v256 v257 v258 v259 v260 v261 v262 v263 v264 v265 v266 v267 v268 v269 v270 v271 v272 v273 v274 v275 v276 v277 v278 v279 v280 v281 v282 v283 v284 v285 v286 v287 v288 : Value} (W : World) (post : Ending → World → Prop) (HP : Hid (∀ w', Below W.heap.size W w' → post (.returned (.bool true)) w'))
    (D : Nat) (ca cb cd : Value) (c : Conf) (HC : Hid (∀ w', Below W.heap.size W w' → w'.heap[D]? = some (.cells #[ca, cb, cd] 25 (0, 0)) ∧ Config3 w' ca cb cd c)) (hc : validB c = true)
    (ops : List OpP) (ao : Option Addr) (co : Nat) (HW : Hid (∀ w', Below W.heap.size W w' → OpsW w' (.slice ao ops.length co) ops))
    (va vb : Value) (pa pb : List Int) (HA : Hid (∀ w', Below W.heap.size W w' → Ints w' va pa)) (HB : Hid (∀ w', Below W.heap.size W w' → Ints w' vb pb)) :
    Code.wp Try.prog ((Try.f4.body.bind (seqAt 17)).getD .skip) (bodyPost Try.prog Try.f4 post) ⟨#[v0, v1, v2, v3, v4, v5, v6, v7, v8, v9, v10, .pointer (some ⟨D, 0, none⟩), .slice ao ops.length co, v13, v14, v15, v16, va, vb, v19, v20, v21, v22, v23, v24, v25, v26, v27, v28, v29, v30, v31, v32, v33, v34, v35, v36, v37, v38, v39, v40, v41, v42, v43, v44, v45, v46, v47, v48, v49, v50, v51, v52, v53, v54, v55, v56, v57, v58, v59, v60, v61, v62, v63, v64, v65, v66, v67, v68, v69, v70, v71, v72, v73, v74, v75, v76, v77, v78, v79, v80, v81, v82, v83, v84, v85, v86, v87, v88, v89, v90, v91, v92, v93, v94, v95, v96, v97, v98, v99, v100, v101, v102, v103, v104, v105, v106, v107, v108, v109, v110, v111, v112, v113, v114, v115, v116, v117, v118, v119, v120, v121, v122, v123, v124, v125, v126, v127, v128, v129, v130, v131, v132, v133, v134, v135, v136, v137, v138, v139, v140, v141, v142, v143, v144, v145, v146, v147, v148, v149, v150, v151, v152, v153, v154, v155, v156, v157, v158, v159, v160, v161, v162, v163, v164, v165, v166, v167, v168, v169, v170, v171, v172, v173, v174, v175, v176, v177, v178, v179, v180, v181, v182, v183, v184, v185, v186, v187, v188, v189, v190, v191, v192, v193, v194, v195, v196, v197, v198, v199, v200, v201, v202, v203, v204, v205, v206, v207, v208, v209, v210, v211, v212, v213, v214, v215, v216, v217, v218, v219, v220, v221, v222, v223, v224, v225, v226, v227, v228, v229, v230, v231, v232, v233, v234, v235, v236, v237, v238, v239, v240, v241, v242, v243, v244, v245, v246, v247, v248, v249, v250, v251, v252, v253, v254, v255, v256, v257, v258, v259, v260, v261, v262, v263, v264, v265, v266, v267, v268, v269, v270, v271, v272, v273, v274, v275, v276, v277, v278, v279, v280, v281, v282, v283, v284, v285, v286, v287, v288], []⟩ W := by
  conv => arg 2; whnf
  have HB0 := begin_law ca cb cd (.slice ao ops.length co) c ops W (HC.out _ (Below.refl _ _)).2 (HW.out _ (Below.refl _ _))
  obtain ⟨r, hR⟩ := hide (beginP c ops)
  rw [hR.out] at HB0
  obtain ⟨e0, d⟩ := r
  have HBg : Hid (Calls Try.prog 18 #[.agg #[ca, cb, cd], .slice ao ops.length co] W fun e w' => ∃ a b d', e = .returned (.tuple #[.agg #[a, b, d'], .int .i64 e0]) ∧ Config3 w' a b d' d ∧ Below W.heap.size W w') :=
    HB0.mono (fun e w' h => by obtain ⟨a, b, d', h1, h2, h3⟩ := h; exact ⟨a, b, d', h1, h2.conf, h3⟩)
  clear HB0
  have x0 := (HC.out _ (Below.refl _ _)).1
  have c0 : W.cell? ⟨D, 0, none⟩ = some ca := cell_n x0 0 rfl
  have c1 : W.cell? ⟨D, 1, none⟩ = some cb := cell_n x0 1 rfl
  have c2 : W.cell? ⟨D, 2, none⟩ = some cd := cell_n x0 2 rfl
  clear x0
  go_wp2_with fail
  refine HBg.out.mono ?_
  rintro e w2 ⟨ea, eb, ed, rfl, hcf, hb2⟩
  obtain ⟨x1, y1, rfl, _⟩ := len_of_Ints hcf.v
  obtain ⟨x2, y2, rfl, _⟩ := len_of_Ints hcf.n
  obtain ⟨x3, y3, rfl, _⟩ := len_of_Ints hcf.l
  obtain ⟨W3, hW3⟩ := hide (w2.alloc (.cells #[(.slice x1 d.v.length y1), (.slice x2 d.n.length y2), (.slice x3 d.l.length y3)] 25))
  have hx : W3.heap[w2.heap.size]? = some (.cells #[(.slice x1 d.v.length y1), (.slice x2 d.n.length y2), (.slice x3 d.l.length y3)] 25 (0, 0)) := by rw [← hW3.out]; exact hp_at _ _ rfl
  have hb3 : Below W.heap.size W W3 := by rw [← hW3.out]; exact hb2.alloc hb2.size _
  have hcf3 : Config3 W3 (.slice x1 d.v.length y1) (.slice x2 d.n.length y2) (.slice x3 d.l.length y3) d := hcf.mono (by rw [← hW3.out]; exact (Below.refl _ _).alloc (Nat.le_refl _) _)
  obtain ⟨E, hE⟩ := hide w2.heap.size
  rw [hE.out] at hx
  have HP3 : Hid (∀ w', Below W3.heap.size W3 w' → post (.returned (.bool true)) w') := fun w' h => HP.out w' (hb3.trans (h.mono hb3.size))
  have HE3 : Hid (∀ w', Below W3.heap.size W3 w' → w'.heap[E]? = some (.cells #[(.slice x1 d.v.length y1), (.slice x2 d.n.length y2), (.slice x3 d.l.length y3)] 25 (0, 0)) ∧ Config3 w' (.slice x1 d.v.length y1) (.slice x2 d.n.length y2) (.slice x3 d.l.length y3) d) := fun w' h => ⟨(h.block E (lt_of_block hx)).trans hx, hcf3.mono h⟩
  have HC3 : Hid (∀ w', Below W3.heap.size W3 w' → w'.heap[D]? = some (.cells #[ca, cb, cd] 25 (0, 0)) ∧ Config3 w' ca cb cd c) := fun w' h => HC.out w' (hb3.trans (h.mono hb3.size))
  have HA3 : Hid (∀ w', Below W3.heap.size W3 w' → Ints w' va pa) := fun w' h => HA.out w' (hb3.trans (h.mono hb3.size))
  have HB3 : Hid (∀ w', Below W3.heap.size W3 w' → Ints w' vb pb) := fun w' h => HB.out w' (hb3.trans (h.mono hb3.size))
  have HO3 : Hid (∀ w', Below W3.heap.size W3 w' → ops ≠ [] → ∃ b off, ao = some ⟨b, off, none⟩ ∧ ∀ j o, ops[j]? = some o → w'.cell? ⟨b, off + j * 2, none⟩ = some (.int .i64 o.kind) ∧ w'.cell? ⟨b, off + j * 2 + 1, none⟩ = some (.int .i64 o.node)) := by
    show ∀ w', _ → _
    intro w' h
    obtain ⟨ao', co', he, hc', _⟩ := HW.out w' (hb3.trans (h.mono hb3.size))
    injection he with e1 e2 e3
    subst e1
    exact hc'
  clear hx hb2 hb3 hcf hcf3 c0 c1 c2
  try dsimp only
  go_upto_region 18 with fail
  rw [hW3.out, hE.out]
  by_cases he : e0 = 0
  · subst he
    obtain ⟨_, _, hd, _, _⟩ := beginP_ok hR.out
    obtain ⟨hlv, hops, _, _⟩ := last_facts hR.out
    have Hw : Hid (∀ i (hi : i < ops.length), (∀ k (hk : k < ops.length), i < k → ops[k].node ≠ ops[i].node) → wantB ops[i] (lastP d).v (lastP d).l = true) := fun i hi h => opsP_want hops i hi h
    have Hm1 := fun (ha : quorumB c pa = true) (hb : quorumB d pb = true) => meet_begun hR.out ha hb d.n
    have Hm2 := fun (ha : quorumB d pa = true) (hb : quorumB (lastP d) pb = true) => meet_last hR.out ha hb (c.v ++ d.n)
    have hol := begin_len hR.out
    go_upto_if 111 with (fail)
    iterate 12 (first | done | exact meets_m1 W3 post HP3 D E ca cb cd (.slice x1 d.v.length y1) (.slice x2 d.n.length y2) (.slice x3 d.l.length y3) c d HC3 HE3 hc hd hlv ops ao co HO3 va vb pa pb HA3 HB3 hol Hw Hm1 Hm2 | go_step)
  · have z0 : (e0 == 0) = false := beq_eq_false_iff_ne.2 he
    have z1 : (e0 != 0) = true := bne_iff_ne.2 he
    clear he HE3 HC3 HA3 HB3 HO3
    obtain ⟨W4, hW4⟩ := hide ((W3.alloc (.cells #[.int .i64 1, .int .i64 2] 3)).alloc (.cells #[.int .i64 3, .int .i64 1] 44))
    have hx4 : W4.heap[W3.heap.size]? = some (.cells #[.int .i64 1, .int .i64 2] 3 (0, 0)) := by rw [← hW4.out]; exact (hp_past _ _ (by simp)).trans (hp_at _ _ rfl)
    have hy4 : W4.heap[W3.heap.size + 1]? = some (.cells #[.int .i64 3, .int .i64 1] 44 (0, 0)) := by rw [← hW4.out]; exact hp_at _ _ (by simp)
    have hb4 : Below W3.heap.size W3 W4 := by rw [← hW4.out]; exact ((Below.refl _ _).alloc (Nat.le_refl _) _).alloc (by simp) _
    have hI : Ints W4 (.slice (some ⟨W3.heap.size, 0, none⟩) 2 2) [1, 2] := by
      refine ⟨_, _, rfl, fun _ => ⟨W3.heap.size, 0, rfl, fun j x hj => ?_⟩, by show 2 ≤ maxLen; unfold maxLen; omega⟩
      match j, hj with
      | 0, hj => (have : x = 1 := by simpa using hj.symm); subst this; exact cell_n hx4 0 rfl
      | 1, hj => (have : x = 2 := by simpa using hj.symm); subst this; exact cell_n hx4 1 rfl
      | j + 2, hj => simp at hj
    have hO : OpsW W4 (.slice (some ⟨W3.heap.size + 1, 0, none⟩) 1 1) [⟨3, 1⟩] := by
      refine ⟨_, _, rfl, fun _ => ⟨W3.heap.size + 1, 0, rfl, fun j o hj => ?_⟩, by show 1 ≤ maxLen; unfold maxLen; omega⟩
      match j, hj with
      | 0, hj => (have : o = ⟨3, 1⟩ := by simpa using hj.symm); subst this; exact ⟨cell_n hy4 0 rfl, cell_n hy4 1 rfl⟩
      | j + 1, hj => simp at hj
    have hN : Ints W4 (.slice none 0 0) [] := (IntsF.nil 0 _).ints
    have HB4 := begin_law _ _ _ _ ⟨[1, 2], [], []⟩ [⟨3, 1⟩] W4 ⟨hI, hN, hN⟩ hO
    rw [first_begin] at HB4
    have HBh : Hid (Calls Try.prog 18 #[.agg #[.slice (some ⟨W3.heap.size, 0, none⟩) 2 2, .slice none 0 0, .slice none 0 0], .slice (some ⟨W3.heap.size + 1, 0, none⟩) 1 1] W4 fun e w' => ∃ a b d', e = .returned (.tuple #[.agg #[a, b, d'], .int .i64 0]) ∧ Config3 w' a b d' ⟨[1, 2], [2], []⟩ ∧ Below W4.heap.size W4 w') :=
      HB4.mono (fun e w' h => by obtain ⟨a, b, d', h1, h2, h3⟩ := h; exact ⟨a, b, d', h1, h2.conf, h3⟩)
    have Hb4 := Lib.hid hb4
    clear HB4 hx4 hy4 hI hO hN hb4
    go_wp2_with fail
    rw [hW4.out]
    refine HBh.out.mono ?_
    rintro e w5 ⟨fa, fb, fd, rfl, hcf, hb5⟩
    obtain ⟨u1, v1', rfl, _⟩ := len_of_Ints hcf.v
    obtain ⟨u2, k2, rfl, _⟩ := len_of_Ints hcf.n
    obtain ⟨u3, k3, rfl, _⟩ := len_of_Ints hcf.l
    dsimp only [List.length_cons, List.length_nil] at hcf
    obtain ⟨b2, o2, rfl, hcell⟩ : ∃ b off, u2 = some ⟨b, off, none⟩ ∧ w5.cell? ⟨b, off, none⟩ = some (.int .i64 2) := by
      obtain ⟨ao', cap', he, hc', _⟩ := hcf.n
      obtain ⟨b, off, rfl, hj⟩ := hc' (by simp)
      injection he with e1 e2 e3
      exact ⟨b, off, e1, by have := hj 0 2 rfl; rwa [Nat.add_zero] at this⟩
    have hb6 : Below W3.heap.size W3 w5 := Hb4.out.trans (hb5.mono Hb4.out.size)
    have Hp : Hid (∀ w', Below w5.heap.size w5 w' → post (.returned (.bool true)) w') := fun w' h => HP3.out w' (hb6.trans (h.mono hb6.size))
    clear hcf hb5 hb6
    obtain ⟨W6, hW6⟩ := hide (w5.alloc (.cells #[.slice u1 2 v1', .slice (some ⟨b2, o2, none⟩) 1 k2, .slice u3 0 k3] 25))
    have hx6 : W6.heap[w5.heap.size]? = some (.cells #[.slice u1 2 v1', .slice (some ⟨b2, o2, none⟩) 1 k2, .slice u3 0 k3] 25 (0, 0)) := by rw [← hW6.out]; exact hp_at _ _ rfl
    have hb6 : Below w5.heap.size w5 W6 := by rw [← hW6.out]; exact (Below.refl _ _).alloc (Nat.le_refl _) _
    have c1 : W6.cell? ⟨w5.heap.size, 1, none⟩ = some (.slice (some ⟨b2, o2, none⟩) 1 k2) := cell_n hx6 1 rfl
    have ce : W6.cell? ⟨b2, o2, none⟩ = some (.int .i64 2) := (hb6.cell (p := ⟨b2, o2, none⟩) (lt_of_cell hcell)).trans hcell
    obtain ⟨Q, hQ⟩ := hide w5.heap.size
    rw [hQ.out] at c1
    have Hq := Lib.hid (Hp.out _ hb6)
    clear hx6 hb6 hcell Hp
    try dsimp only
    go_upto_region 20 with fail
    rw [hW6.out, hQ.out]
    go_wp2_with fail
    first | exact Hq.out | (go_ret; exact Hq.out)
set_option maxHeartbeats 4000000 in
set_option maxRecDepth 100000 in
theorem meets_all {v0 v1 v2 v5 v6 v7 v8 v9 v10 v13 v14 v15 v16 v17 v18 v19 v20 v21 v22 v23 v24 v25 v26 v27 v28 v29 v30 v31 v32 v33 v34 v35 v36 v37 v38 v39 v40 v41 v42 v43 v44 v45 v46 v47 v48 v49 v50 v51 v52 v53 v54 v55 v56 v57 v58 v59 v60 v61 v62 v63 v64 v65 v66 v67 v68 v69 v70 v71 v72 v73 v74 v75 v76 v77 v78 v79 v80 v81 v82 v83 v84 v85 v86 v87 v88 v89 v90 v91 v92 v93 v94 v95 v96 v97 v98 v99 v100 v101 v102 v103 v104 v105 v106 v107 v108 v109 v110 v111 v112 v113 v114 v115 v116 v117 v118 v119 v120 v121 v122 v123 v124 v125 v126 v127 v128 v129 v130 v131 v132 v133 v134 v135 v136 v137 v138 v139 v140 v141 v142 v143 v144 v145 v146 v147 v148 v149 v150 v151 v152 v153 v154 v155 v156 v157 v158 v159 v160 v161 v162 v163 v164 v165 v166 v167 v168 v169 v170 v171 v172 v173 v174 v175 v176 v177 v178 v179 v180 v181 v182 v183 v184 v185 v186 v187 v188 v189 v190 v191 v192 v193 v194 v195 v196 v197 v198 v199 v200 v201 v202 v203 v204 v205 v206 v207 v208 v209 v210 v211 v212 v213 v214 v215 v216 v217 v218 v219 v220 v221 v222 v223 v224 v225 v226 v227 v228 v229 v230 v231 v232 v233 v234 v235 v236 v237 v238 v239 v240 v241 v242 v243 v244 v245 v246 v247 v248 v249 v250 v251 v252 v253 v254 v255 v256 v257 v258 v259 v260 v261 v262 v263 v264 v265 v266 v267 v268 v269 v270 v271 v272 v273 v274 v275 v276 v277 v278 v279 v280 v281 v282 v283 v284 v285 v286 v287 v288 : Value} (W : World) (post : Ending → World → Prop) (HP : Hid (∀ w', Below W.heap.size W w' → post (.returned (.bool true)) w'))
    (D : Nat) (ca cb cd : Value) (c : Conf) (HC : Hid (∀ w', Below W.heap.size W w' → w'.heap[D]? = some (.cells #[ca, cb, cd] 25 (0, 0)) ∧ Config3 w' ca cb cd c)) (hc : validB c = true) (hq : quorumB c c.v = true) (hno : quorumB c [] = false)
    (ops : List OpP) (ao : Option Addr) (co : Nat) (HW : Hid (∀ w', Below W.heap.size W w' → OpsW w' (.slice ao ops.length co) ops)) (one two : Int) :
    Code.wp Try.prog ((Try.f4.body.bind (seqAt 8)).getD .skip) (bodyPost Try.prog Try.f4 post) ⟨#[v0, v1, v2, .int .i64 one, .int .i64 two, v5, v6, v7, v8, v9, v10, .pointer (some ⟨D, 0, none⟩), .slice ao ops.length co, v13, v14, v15, v16, v17, v18, v19, v20, v21, v22, v23, v24, v25, v26, v27, v28, v29, v30, v31, v32, v33, v34, v35, v36, v37, v38, v39, v40, v41, v42, v43, v44, v45, v46, v47, v48, v49, v50, v51, v52, v53, v54, v55, v56, v57, v58, v59, v60, v61, v62, v63, v64, v65, v66, v67, v68, v69, v70, v71, v72, v73, v74, v75, v76, v77, v78, v79, v80, v81, v82, v83, v84, v85, v86, v87, v88, v89, v90, v91, v92, v93, v94, v95, v96, v97, v98, v99, v100, v101, v102, v103, v104, v105, v106, v107, v108, v109, v110, v111, v112, v113, v114, v115, v116, v117, v118, v119, v120, v121, v122, v123, v124, v125, v126, v127, v128, v129, v130, v131, v132, v133, v134, v135, v136, v137, v138, v139, v140, v141, v142, v143, v144, v145, v146, v147, v148, v149, v150, v151, v152, v153, v154, v155, v156, v157, v158, v159, v160, v161, v162, v163, v164, v165, v166, v167, v168, v169, v170, v171, v172, v173, v174, v175, v176, v177, v178, v179, v180, v181, v182, v183, v184, v185, v186, v187, v188, v189, v190, v191, v192, v193, v194, v195, v196, v197, v198, v199, v200, v201, v202, v203, v204, v205, v206, v207, v208, v209, v210, v211, v212, v213, v214, v215, v216, v217, v218, v219, v220, v221, v222, v223, v224, v225, v226, v227, v228, v229, v230, v231, v232, v233, v234, v235, v236, v237, v238, v239, v240, v241, v242, v243, v244, v245, v246, v247, v248, v249, v250, v251, v252, v253, v254, v255, v256, v257, v258, v259, v260, v261, v262, v263, v264, v265, v266, v267, v268, v269, v270, v271, v272, v273, v274, v275, v276, v277, v278, v279, v280, v281, v282, v283, v284, v285, v286, v287, v288], []⟩ W := by
  conv => arg 2; whnf
  have x0 := (HC.out _ (Below.refl _ _)).1
  have c0 : W.cell? ⟨D, 0, none⟩ = some ca := cell_n x0 0 rfl
  have c1 : W.cell? ⟨D, 1, none⟩ = some cb := cell_n x0 1 rfl
  have c2 : W.cell? ⟨D, 2, none⟩ = some cd := cell_n x0 2 rfl
  clear x0
  obtain ⟨hc1, hc2, hc3⟩ := valid_lens hc
  have HV := config_valid ca cb cd c W (HC.out _ (Below.refl _ _)).2
  rw [hc] at HV
  have HV := Lib.hid HV
  have HQ1 : Hid (∀ w', Below W.heap.size W w' → Calls Try.prog 14 #[.agg #[ca, cb, cd], ca] w' fun e w'' => e = .returned (.bool true) ∧ Below w'.heap.size w' w'') := by
    show ∀ w', _ → _
    intro w' h
    have := quorum_law ca cb cd ca c c.v w' (HC.out _ h).2 (HC.out _ h).2.v (by omega) (by omega)
    rwa [hq] at this
  have HQ2 : Hid (∀ w', Below W.heap.size W w' → Calls Try.prog 14 #[.agg #[ca, cb, cd], .slice none 0 0] w' fun e w'' => e = .returned (.bool false) ∧ Below w'.heap.size w' w'') := by
    show ∀ w', _ → _
    intro w' h
    have := quorum_law ca cb cd (.slice none 0 0) c [] w' (HC.out _ h).2 (IntsF.nil 0 _).ints (by omega) (by omega)
    rwa [hno] at this
  go_wp2_with fail
  refine HV.out.mono ?_
  rintro e w2 ⟨rfl, hb⟩
  have H2 := Lib.hid hb
  clear hb c0 c1 c2
  have x0 := (HC.out _ H2.out).1
  have c0 : w2.cell? ⟨D, 0, none⟩ = some ca := cell_n x0 0 rfl
  have c1 : w2.cell? ⟨D, 1, none⟩ = some cb := cell_n x0 1 rfl
  have c2 : w2.cell? ⟨D, 2, none⟩ = some cd := cell_n x0 2 rfl
  clear x0
  go_wp2_with fail
  refine (HQ1.out _ H2.out).mono ?_
  rintro e w3 ⟨rfl, hb⟩
  have H3 := Lib.hid (H2.out.trans (hb.mono H2.out.size))
  clear hb c0 c1 c2
  have x0 := (HC.out _ H3.out).1
  have c0 : w3.cell? ⟨D, 0, none⟩ = some ca := cell_n x0 0 rfl
  have c1 : w3.cell? ⟨D, 1, none⟩ = some cb := cell_n x0 1 rfl
  have c2 : w3.cell? ⟨D, 2, none⟩ = some cd := cell_n x0 2 rfl
  clear x0
  go_wp2_with fail
  refine (HQ2.out _ H3.out).mono ?_
  rintro e w4 ⟨rfl, hb⟩
  have H4 := Lib.hid (H3.out.trans (hb.mono H3.out.size))
  clear hb c0 c1 c2
  go_wp2_with fail
  refine (nodes_law one w4).mono ?_
  rintro e w5 ⟨va, rfl, hoa, hb⟩
  have H5 := Lib.hid (H4.out.trans (hb.mono H4.out.size))
  have HA5 : Hid (Ints w5 va (nodesP one)) := Ints.of_own hoa
  clear hb hoa
  go_wp2_with fail
  refine (nodes_law two w5).mono ?_
  rintro e w6 ⟨vb, rfl, hob, hb⟩
  have H6 := Lib.hid (H5.out.trans (hb.mono H5.out.size))
  have HA : Hid (Ints w6 va (nodesP one)) := HA5.out.mono hb
  have HB : Hid (Ints w6 vb (nodesP two)) := Ints.of_own hob
  clear hb hob HA5
  have S6 : Hid (Below w6.heap.size w6 w6) := Below.refl _ _
  have x0 := (HC.out _ H6.out).1
  have c0 : w6.cell? ⟨D, 0, none⟩ = some ca := cell_n x0 0 rfl
  have c1 : w6.cell? ⟨D, 1, none⟩ = some cb := cell_n x0 1 rfl
  have c2 : w6.cell? ⟨D, 2, none⟩ = some cd := cell_n x0 2 rfl
  clear x0
  have HR1 : Hid (Calls Try.prog 14 #[.agg #[ca, cb, cd], va] w6 fun e w'' => e = .returned (.bool (quorumB c (nodesP one))) ∧ Below w6.heap.size w6 w'') := quorum_law ca cb cd va c _ w6 (HC.out _ H6.out).2 HA.out (by omega) (by omega)
  have HR2 : Hid (∀ w', Below w6.heap.size w6 w' → Calls Try.prog 14 #[.agg #[ca, cb, cd], vb] w' fun e w'' => e = .returned (.bool (quorumB c (nodesP two))) ∧ Below w'.heap.size w' w'') := fun w' h => quorum_law ca cb cd vb c _ w' (HC.out _ (H6.out.trans (h.mono H6.out.size))).2 (HB.out.mono h) (by omega) (by omega)
  obtain ⟨q1, hq1⟩ := hide (quorumB c (nodesP one))
  obtain ⟨q2, hq2⟩ := hide (quorumB c (nodesP two))
  rw [hq1.out] at HR1
  rw [hq2.out] at HR2
  go_wp2_with fail
  refine HR1.out.mono ?_
  rintro e w7 ⟨rfl, hb⟩
  have H7 := Lib.hid (H6.out.trans (hb.mono H6.out.size))
  have S7 := Lib.hid hb
  clear hb c0 c1 c2
  cases q1 with
  | false =>
    have HP9 : Hid (∀ w', Below w7.heap.size w7 w' → post (.returned (.bool true)) w') := fun w' h => HP.out w' (H7.out.trans (h.mono H7.out.size))
    have HC9 : Hid (∀ w', Below w7.heap.size w7 w' → w'.heap[D]? = some (.cells #[ca, cb, cd] 25 (0, 0)) ∧ Config3 w' ca cb cd c) := fun w' h => HC.out w' (H7.out.trans (h.mono H7.out.size))
    have HW9 : Hid (∀ w', Below w7.heap.size w7 w' → OpsW w' (.slice ao ops.length co) ops) := fun w' h => HW.out w' (H7.out.trans (h.mono H7.out.size))
    have HA9 : Hid (∀ w', Below w7.heap.size w7 w' → Ints w' va (nodesP one)) := fun w' h => HA.out.mono (S7.out.trans (h.mono S7.out.size))
    have HB9 : Hid (∀ w', Below w7.heap.size w7 w' → Ints w' vb (nodesP two)) := fun w' h => HB.out.mono (S7.out.trans (h.mono S7.out.size))
    go_upto_if 103 with (fail)
    iterate 12 (first | done | exact meets_begin w7 post HP9 D ca cb cd c HC9 hc ops ao co HW9 va vb (nodesP one) (nodesP two) HA9 HB9 | go_step)
  | true =>
  have x0 := (HC.out _ H7.out).1
  have c0 : w7.cell? ⟨D, 0, none⟩ = some ca := cell_n x0 0 rfl
  have c1 : w7.cell? ⟨D, 1, none⟩ = some cb := cell_n x0 1 rfl
  have c2 : w7.cell? ⟨D, 2, none⟩ = some cd := cell_n x0 2 rfl
  clear x0
  go_wp2_with fail
  refine (HR2.out _ S7.out).mono ?_
  rintro e w8 ⟨rfl, hb⟩
  have H8 := Lib.hid (H7.out.trans (hb.mono H7.out.size))
  have S8 := Lib.hid (S7.out.trans (hb.mono S7.out.size))
  clear hb c0 c1 c2
  cases q2 with
  | false =>
    have HP9 : Hid (∀ w', Below w8.heap.size w8 w' → post (.returned (.bool true)) w') := fun w' h => HP.out w' (H8.out.trans (h.mono H8.out.size))
    have HC9 : Hid (∀ w', Below w8.heap.size w8 w' → w'.heap[D]? = some (.cells #[ca, cb, cd] 25 (0, 0)) ∧ Config3 w' ca cb cd c) := fun w' h => HC.out w' (H8.out.trans (h.mono H8.out.size))
    have HW9 : Hid (∀ w', Below w8.heap.size w8 w' → OpsW w' (.slice ao ops.length co) ops) := fun w' h => HW.out w' (H8.out.trans (h.mono H8.out.size))
    have HA9 : Hid (∀ w', Below w8.heap.size w8 w' → Ints w' va (nodesP one)) := fun w' h => HA.out.mono (S8.out.trans (h.mono S8.out.size))
    have HB9 : Hid (∀ w', Below w8.heap.size w8 w' → Ints w' vb (nodesP two)) := fun w' h => HB.out.mono (S8.out.trans (h.mono S8.out.size))
    go_upto_if 103 with (fail)
    iterate 12 (first | done | exact meets_begin w8 post HP9 D ca cb cd c HC9 hc ops ao co HW9 va vb (nodesP one) (nodesP two) HA9 HB9 | go_step)
  | true =>
  have c0 : w8.cell? ⟨D, 0, none⟩ = some ca := cell_n (HC.out _ H8.out).1 0 rfl
  have HM := keep_meet va vb ca (nodesP one) (nodesP two) c.v w8 (HA.out.mono S8.out) (HB.out.mono S8.out) (HC.out _ H8.out).2.v
  rw [meet_one hq1.out hq2.out] at HM
  have HM := Lib.hid HM
  go_wp2_with fail
  refine HM.out.mono ?_
  rintro e w9 ⟨rfl, rfl⟩
  clear c0
  have HP9 : Hid (∀ w', Below w8.heap.size w8 w' → post (.returned (.bool true)) w') := fun w' h => HP.out w' (H8.out.trans (h.mono H8.out.size))
  have HC9 : Hid (∀ w', Below w8.heap.size w8 w' → w'.heap[D]? = some (.cells #[ca, cb, cd] 25 (0, 0)) ∧ Config3 w' ca cb cd c) := fun w' h => HC.out w' (H8.out.trans (h.mono H8.out.size))
  have HW9 : Hid (∀ w', Below w8.heap.size w8 w' → OpsW w' (.slice ao ops.length co) ops) := fun w' h => HW.out w' (H8.out.trans (h.mono H8.out.size))
  have HA9 : Hid (∀ w', Below w8.heap.size w8 w' → Ints w' va (nodesP one)) := fun w' h => HA.out.mono (S8.out.trans (h.mono S8.out.size))
  have HB9 : Hid (∀ w', Below w8.heap.size w8 w' → Ints w' vb (nodesP two)) := fun w' h => HB.out.mono (S8.out.trans (h.mono S8.out.size))
  go_upto_if 103 with (fail)
  iterate 12 (first | done | exact meets_begin w8 post HP9 D ca cb cd c HC9 hc ops ao co HW9 va vb (nodesP one) (nodesP two) HA9 HB9 | go_step)
end Go.Proofs.Ytgdmcbjlfnjhjaa
