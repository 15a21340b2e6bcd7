/-
  What was kept is there: a round of the law: what is to be kept, made.
-/
import Derived.Test.YtjlhlmnoomiblaaZ49
import Derived.Test.YtjlhlmnoomiblaaZ33
namespace Go.Proofs.Ytjlhlmnoomiblaa
open Go.RowKit Wm Mm Lg Fl
set_option linter.unusedVariables false
set_option linter.unusedSimpArgs false

theorem AnyX.three {P : Program} {ops : Array Oper} {Q : Exit → Act → World → Prop} {md : Region.Mode} {S : World → Prop} {z i j m : Nat} {oi oj om : Oper} {n : Nat} {l : Array Bool} {a : Act} {w : World} (hr : Region.ready md ops l = [i, j, m]) (h1 : ops[i]? = some oi) (h2 : ops[j]? = some oj) (h3 : ops[m]? = some om)
    (hi : ∀ K : Act → World → Prop, Hid (∀ b v, (i = z ∨ S v) ∧ AnyX P md ops Q S z n (l.setIfInBounds i true) b v → K b v) → if Region.wanted oi (yielded ops a.tmps) = true then Oper.wp P oi a w K Q else K (a.put oi.dst undef) w)
    (hj : ∀ K : Act → World → Prop, Hid (∀ b v, (j = z ∨ S v) ∧ AnyX P md ops Q S z n (l.setIfInBounds j true) b v → K b v) → if Region.wanted oj (yielded ops a.tmps) = true then Oper.wp P oj a w K Q else K (a.put oj.dst undef) w)
    (hm : ∀ K : Act → World → Prop, Hid (∀ b v, (m = z ∨ S v) ∧ AnyX P md ops Q S z n (l.setIfInBounds m true) b v → K b v) → if Region.wanted om (yielded ops a.tmps) = true then Oper.wp P om a w K Q else K (a.put om.dst undef) w) : AnyX P md ops Q S z (n + 1) l a w := by
  refine ⟨fun h0 => absurd h0 (by rw [hr]; simp), fun k hk => ?_⟩
  rw [hr] at hk
  simp only [List.mem_cons, List.not_mem_nil, or_false] at hk
  rcases hk with rfl | rfl | rfl
  · exact wpOp_step h1 (fun K hK => hi K hK)
  · exact wpOp_step h2 (fun K hK => hj K hK)
  · exact wpOp_step h3 (fun K hK => hm K hK)
theorem AnyX.two {P : Program} {ops : Array Oper} {Q : Exit → Act → World → Prop} {md : Region.Mode} {S : World → Prop} {z i j : Nat} {oi oj : Oper} {n : Nat} {l : Array Bool} {a : Act} {w : World} (hr : Region.ready md ops l = [i, j]) (h1 : ops[i]? = some oi) (h2 : ops[j]? = some oj)
    (hi : ∀ K : Act → World → Prop, Hid (∀ b v, (i = z ∨ S v) ∧ AnyX P md ops Q S z n (l.setIfInBounds i true) b v → K b v) → if Region.wanted oi (yielded ops a.tmps) = true then Oper.wp P oi a w K Q else K (a.put oi.dst undef) w)
    (hj : ∀ K : Act → World → Prop, Hid (∀ b v, (j = z ∨ S v) ∧ AnyX P md ops Q S z n (l.setIfInBounds j true) b v → K b v) → if Region.wanted oj (yielded ops a.tmps) = true then Oper.wp P oj a w K Q else K (a.put oj.dst undef) w) : AnyX P md ops Q S z (n + 1) l a w := by
  refine ⟨fun h0 => absurd h0 (by rw [hr]; simp), fun k hk => ?_⟩
  rw [hr] at hk
  simp only [List.mem_cons, List.not_mem_nil, or_false] at hk
  rcases hk with rfl | rfl
  · exact wpOp_step h1 (fun K hK => hi K hK)
  · exact wpOp_step h2 (fun K hK => hj K hK)
/-- the Ready in block R, its entry in block E -/
def ReadyAt (W X : World) (R : Nat) (t v c : Int) (e : EntP) : Prop := ∃ E, X.heap[R]? = some (.cells (cellsR t v c true (.slice (some ⟨E, 0, none⟩) 1 1) 0 0 (.slice none 0 0) (.slice none 0 0) (.slice none 0 0) [] (.slice none 0 0) (.slice none 0 0) (.slice none 0 0) (.slice none 0 0)) 41 (0, 0)) ∧ Ents (fun _ => True) X (.slice (some ⟨E, 0, none⟩) 1 1) [e] ∧ Below W.heap.size W X ∧ W.heap.size ≤ R
theorem ent_row {w : World} {g : Nat} {e : EntP} (h : w.heap[g]? = some (.cells (rowE e).toArray 37 (0, 0))) : Ents (fun _ => True) w (.slice (some ⟨g, 0, none⟩) 1 1) [e] := by
  have hg : w.heap[g]? = some (.cells (([e] : List EntP).flatMap rowE).toArray 37 (0, 0)) := by simpa using h
  have ho : OwnE 0 w (.slice (some ⟨g, 0, none⟩) 1 1) [e] := own_lit rowE rowE_len hg (Nat.zero_le _) (by unfold maxLen; simp)
  exact (OwnE.ents ho).weak (Plain.good _) (fun _ _ _ => trivial)
theorem ready_ez {V : World} {t v ek : Int} {b : UInt8} : ReadyAt V ((V.alloc (.cells #[.int .i64 (ek + 1), .int .i64 t, .int .i64 1, str [b]] 37)).alloc (.cells #[.int .i64 t, .int .i64 v, .int .i64 ek, .bool true, .slice (some ⟨V.heap.size, 0, none⟩) 1 1, .int .i64 0, .int .i64 0, .slice none 0 0, .slice none 0 0, .slice none 0 0, .string ⟨#[]⟩, .slice none 0 0, .slice none 0 0, .slice none 0 0, .slice none 0 0] 41)).drew (V.heap.size + 1) t v ek ⟨ek + 1, t, 1, [b]⟩ := by
  refine ⟨V.heap.size, hp_at _ _ (by simp), ent_row ((((Below.refl (V.heap.size + 1) (V.alloc (.cells #[.int .i64 (ek + 1), .int .i64 t, .int .i64 1, str [b]] 37))).alloc (by simp) _).block V.heap.size (by omega)).trans (hp_at V _ rfl)), (((Below.refl _ _).alloc (Nat.le_refl _) _).alloc (by simp) _).drew, by omega⟩
theorem ready_ze {V : World} {t v ek : Int} {b : UInt8} : ReadyAt V ((V.alloc (.cells #[.int .i64 t, .int .i64 v, .int .i64 ek, .bool true, .slice (some ⟨V.heap.size + 1, 0, none⟩) 1 1, .int .i64 0, .int .i64 0, .slice none 0 0, .slice none 0 0, .slice none 0 0, .string ⟨#[]⟩, .slice none 0 0, .slice none 0 0, .slice none 0 0, .slice none 0 0] 41)).alloc (.cells #[.int .i64 (ek + 1), .int .i64 t, .int .i64 1, str [b]] 37)).drew V.heap.size t v ek ⟨ek + 1, t, 1, [b]⟩ := by
  refine ⟨V.heap.size + 1, (((Below.refl (V.heap.size + 1) (V.alloc (.cells #[.int .i64 t, .int .i64 v, .int .i64 ek, .bool true, .slice (some ⟨V.heap.size + 1, 0, none⟩) 1 1, .int .i64 0, .int .i64 0, .slice none 0 0, .slice none 0 0, .slice none 0 0, .string ⟨#[]⟩, .slice none 0 0, .slice none 0 0, .slice none 0 0, .slice none 0 0] 41))).alloc (by simp) _).block V.heap.size (by omega)).trans (hp_at V _ rfl), ent_row (hp_at _ _ (by simp)), (((Below.refl _ _).alloc (Nat.le_refl _) _).alloc (by simp) _).drew, by omega⟩
set_option maxHeartbeats 4000000 in
set_option maxRecDepth 100000 in
theorem crash_rdy {v1 v2 v3 v4 v5 v6 v7 v8 v9 v10 v11 v16 v17 v18 v19 v20 v21 v22 v23 v24 v25 v26 v27 v28 v29 v30 v31 v32 v33 v34 v35 v36 v37 v38 v39 v40 v41 v42 v43 v44 v45 v46 v47 v48 v49 v50 v51 v52 v53 v54 v55 v56 v57 v58 v59 v60 v61 v62 v63 v64 v65 v66 v67 v68 v69 v70 v71 v72 v73 v74 v75 v76 v77 v78 v79 v80 v81 v82 v83 v84 v85 v86 v87 v88 v89 v90 v91 v92 v93 v94 v95 v96 v97 v98 v99 v100 v101 v102 v103 v104 v105 v106 v107 v108 v109 v110 v111 v112 v113 v114 v115 v116 v117 v118 v119 v120 v121 v122 v123 v124 v125 v126 v127 v128 v129 v130 v131 v132 v133 v134 v135 v136 v137 v138 v139 v140 v141 v142 v143 v144 v145 v146 v147 v148 v149 v150 v151 v152 v153 v154 v155 v156 v157 v158 v159 v160 v161 v162 v163 v164 v165 v166 v167 v168 v169 v170 v171 v172 v173 v174 v175 v176 v177 v178 v179 v180 v181 v182 v183 v184 v185 v186 v187 v188 v189 v190 v191 v192 v193 v194 v195 v196 v197 v198 v199 v200 v201 v202 v203 v204 v205 v206 v207 v208 v209 v210 v211 v212 v213 v214 v215 v216 v217 v218 v219 v220 v221 v222 v223 v224 v225 v226 v227 v228 v229 v230 v231 v232 v233 v234 v235 v236 v237 v238 v239 v240 v241 v242 v243 v244 v245 v246 v247 v248 v249 v250 v251 v252 v253 v254 v255 v256 v257 v258 v259 v260 v261 v262 v263 v264 v265 v266 v267 v268 v269 v270 v271 v272 v273 v274 v275 v276 v277 v278 v279 v280 v281 v282 v283 v284 v285 v286 v287 v288 v289 v290 v291 v292 v293 v294 v295 v296 v297 v298 v299 v300 v301 v302 v303 v304 v305 v306 v307 v308 : Value} (V : World) (X i tb tf n tc : Nat) (t ek y0 pv : Int) (b : UInt8) (hit : i < n) (hiti : (i : Int) < (n : Int))
    (KP : Hid (∀ w1, Calls Try.prog 4 #[.int .i64 y0, .int .i64 3] w1 fun e w' => e = .returned (.int .i64 pv) ∧ w1 = w'))
    (HF : Hid (∀ w', Below V.heap.size V w' → (fun u : World => u.cell? ⟨X, 0, none⟩ = some (.int .i64 (ek + 1)) ∧ u.cell? ⟨X, 1, none⟩ = some (.int .i64 t) ∧ u.cell? ⟨X, 2, none⟩ = some (.int .i64 1) ∧ u.cell? ⟨X, 3, none⟩ = some (str [b]) ∧ u.cell? ⟨tb, tf + i, none⟩ = some (.int .i64 y0)) w'))
    (K : Act → World → Prop)
    (HK : Hid (∀ (u16 u73 u74 u75 u76 u77 u78 u79 u80 u81 u82 u83 : Value) (wx : World), (∃ R, u16 = .pointer (some ⟨R, 0, none⟩) ∧ Hid (ReadyAt V wx R t pv ek ⟨ek + 1, t, 1, [b]⟩)) → K ⟨#[.slice (some ⟨tb, tf, none⟩) n tc, v1, v2, v3, v4, v5, v6, v7, v8, v9, v10, v11, .int .i64 (i : Int), .int .i64 t, .int .i64 ek, .pointer (some ⟨X, 0, none⟩), u16, v17, v18, v19, v20, v21, v22, v23, v24, v25, v26, v27, v28, v29, v30, v31, v32, v33, v34, v35, v36, v37, v38, v39, v40, v41, v42, v43, v44, v45, v46, v47, v48, v49, v50, v51, v52, v53, v54, v55, v56, v57, v58, v59, v60, v61, v62, v63, v64, v65, v66, v67, v68, v69, v70, v71, v72, u73, u74, u75, u76, u77, u78, u79, u80, u81, u82, u83, v84, v85, v86, v87, v88, v89, v90, v91, v92, v93, v94, v95, v96, v97, v98, v99, v100, v101, v102, v103, v104, v105, v106, v107, v108, v109, v110, v111, v112, v113, v114, v115, v116, v117, v118, v119, v120, v121, v122, v123, v124, v125, v126, v127, v128, v129, v130, v131, v132, v133, v134, v135, v136, v137, v138, v139, v140, v141, v142, v143, v144, v145, v146, v147, v148, v149, v150, v151, v152, v153, v154, v155, v156, v157, v158, v159, v160, v161, v162, v163, v164, v165, v166, v167, v168, v169, v170, v171, v172, v173, v174, v175, v176, v177, v178, v179, v180, v181, v182, v183, v184, v185, v186, v187, v188, v189, v190, v191, v192, v193, v194, v195, v196, v197, v198, v199, v200, v201, v202, v203, v204, v205, v206, v207, v208, v209, v210, v211, v212, v213, v214, v215, v216, v217, v218, v219, v220, v221, v222, v223, v224, v225, v226, v227, v228, v229, v230, v231, v232, v233, v234, v235, v236, v237, v238, v239, v240, v241, v242, v243, v244, v245, v246, v247, v248, v249, v250, v251, v252, v253, v254, v255, v256, v257, v258, v259, v260, v261, v262, v263, v264, v265, v266, v267, v268, v269, v270, v271, v272, v273, v274, v275, v276, v277, v278, v279, v280, v281, v282, v283, v284, v285, v286, v287, v288, v289, v290, v291, v292, v293, v294, v295, v296, v297, v298, v299, v300, v301, v302, v303, v304, v305, v306, v307, v308], []⟩ wx)) :
    Code.wp Try.prog ((Try.f3.body.bind (regionAt 19)).getD .skip) (Exit.then K (fun _ _ _ => False)) ⟨#[.slice (some ⟨tb, tf, none⟩) n tc, v1, v2, v3, v4, v5, v6, v7, v8, v9, v10, v11, .int .i64 (i : Int), .int .i64 t, .int .i64 ek, .pointer (some ⟨X, 0, none⟩), v16, v17, v18, v19, v20, v21, v22, v23, v24, v25, v26, v27, v28, v29, v30, v31, v32, v33, v34, v35, v36, v37, v38, v39, v40, v41, v42, v43, v44, v45, v46, v47, v48, v49, v50, v51, v52, v53, v54, v55, v56, v57, v58, v59, v60, v61, v62, v63, v64, v65, v66, v67, v68, v69, v70, v71, v72, v73, v74, v75, v76, v77, v78, v79, v80, v81, v82, v83, v84, v85, v86, v87, v88, v89, v90, v91, v92, v93, v94, v95, v96, v97, v98, v99, v100, v101, v102, v103, v104, v105, v106, v107, v108, v109, v110, v111, v112, v113, v114, v115, v116, v117, v118, v119, v120, v121, v122, v123, v124, v125, v126, v127, v128, v129, v130, v131, v132, v133, v134, v135, v136, v137, v138, v139, v140, v141, v142, v143, v144, v145, v146, v147, v148, v149, v150, v151, v152, v153, v154, v155, v156, v157, v158, v159, v160, v161, v162, v163, v164, v165, v166, v167, v168, v169, v170, v171, v172, v173, v174, v175, v176, v177, v178, v179, v180, v181, v182, v183, v184, v185, v186, v187, v188, v189, v190, v191, v192, v193, v194, v195, v196, v197, v198, v199, v200, v201, v202, v203, v204, v205, v206, v207, v208, v209, v210, v211, v212, v213, v214, v215, v216, v217, v218, v219, v220, v221, v222, v223, v224, v225, v226, v227, v228, v229, v230, v231, v232, v233, v234, v235, v236, v237, v238, v239, v240, v241, v242, v243, v244, v245, v246, v247, v248, v249, v250, v251, v252, v253, v254, v255, v256, v257, v258, v259, v260, v261, v262, v263, v264, v265, v266, v267, v268, v269, v270, v271, v272, v273, v274, v275, v276, v277, v278, v279, v280, v281, v282, v283, v284, v285, v286, v287, v288, v289, v290, v291, v292, v293, v294, v295, v296, v297, v298, v299, v300, v301, v302, v303, v304, v305, v306, v307, v308], []⟩ V := by
  conv => arg 2; whnf
  have B0 : Below V.heap.size V V := Below.refl _ _
  have HB : Hid (Below V.heap.size V V.drew) := B0.drew
  clear B0
  refine AnyX.begin 12 (fun u : World => u.cell? ⟨X, 0, none⟩ = some (.int .i64 (ek + 1)) ∧ u.cell? ⟨X, 1, none⟩ = some (.int .i64 t) ∧ u.cell? ⟨X, 2, none⟩ = some (.int .i64 1) ∧ u.cell? ⟨X, 3, none⟩ = some (str [b]) ∧ u.cell? ⟨tb, tf + i, none⟩ = some (.int .i64 y0)) (by kernel_rfl) ?_
  refine AnyX.take (i := 0) (v := ?_) rfl (by kernel_rfl) (by kernel_rfl) (by kernel_rfl) (by kernel_rfl) (fun _ _ _ h => h) (by rfl) (fun w hw => ?_) (HF.out _ HB.out) ?_
  rotate_left
  · obtain ⟨s0, s1, s2, s3, s4⟩ := hw
    go_simp
    try with_reducible rfl
  try simp only [Act.put, List.setIfInBounds_toArray, List.set_cons_zero, List.set_cons_succ]
  refine AnyX.take (i := 1) (v := ?_) rfl (by kernel_rfl) (by kernel_rfl) (by kernel_rfl) (by kernel_rfl) (fun _ _ _ h => h) (by rfl) (fun w hw => ?_) (HF.out _ HB.out) ?_
  rotate_left
  · obtain ⟨s0, s1, s2, s3, s4⟩ := hw
    go_simp
    try with_reducible rfl
  try simp only [Act.put, List.setIfInBounds_toArray, List.set_cons_zero, List.set_cons_succ]
  refine AnyX.take (i := 2) (v := ?_) rfl (by kernel_rfl) (by kernel_rfl) (by kernel_rfl) (by kernel_rfl) (fun _ _ _ h => h) (by rfl) (fun w hw => ?_) (HF.out _ HB.out) ?_
  rotate_left
  · obtain ⟨s0, s1, s2, s3, s4⟩ := hw
    go_simp
    try with_reducible rfl
  try simp only [Act.put, List.setIfInBounds_toArray, List.set_cons_zero, List.set_cons_succ]
  refine AnyX.take (i := 3) (v := ?_) rfl (by kernel_rfl) (by kernel_rfl) (by kernel_rfl) (by kernel_rfl) (fun _ _ _ h => h) (by rfl) (fun w hw => ?_) (HF.out _ HB.out) ?_
  rotate_left
  · obtain ⟨s0, s1, s2, s3, s4⟩ := hw
    go_simp
    try with_reducible rfl
  try simp only [Act.put, List.setIfInBounds_toArray, List.set_cons_zero, List.set_cons_succ]
  refine AnyX.take (i := 4) (v := ?_) rfl (by kernel_rfl) (by kernel_rfl) (by kernel_rfl) (by kernel_rfl) (fun _ _ _ h => h) (by rfl) (fun w hw => ?_) (HF.out _ HB.out) ?_
  rotate_left
  · obtain ⟨s0, s1, s2, s3, s4⟩ := hw
    go_simp
    try with_reducible rfl
  try simp only [Act.put, List.setIfInBounds_toArray, List.set_cons_zero, List.set_cons_succ]
  refine AnyX.take (i := 6) (v := ?_) rfl (by kernel_rfl) (by kernel_rfl) (by kernel_rfl) (by kernel_rfl) (fun _ _ _ h => h) (by rfl) (fun w hw => ?_) (HF.out _ HB.out) ?_
  rotate_left
  · obtain ⟨s0, s1, s2, s3, s4⟩ := hw
    go_simp
    try with_reducible rfl
  try simp only [Act.put, List.setIfInBounds_toArray, List.set_cons_zero, List.set_cons_succ]
  refine AnyX.take (i := 8) (v := ?_) rfl (by kernel_rfl) (by kernel_rfl) (by kernel_rfl) (by kernel_rfl) (fun _ _ _ h => h) (by rfl) (fun w hw => ?_) (HF.out _ HB.out) ?_
  rotate_left
  · obtain ⟨s0, s1, s2, s3, s4⟩ := hw
    go_simp
    try with_reducible rfl
  try simp only [Act.put, List.setIfInBounds_toArray, List.set_cons_zero, List.set_cons_succ]
  refine AnyX.three (i := 5) (j := 9) (m := 11) (by kernel_rfl) rfl rfl rfl (fun K' HK' => ?_) (fun K' HK' => ?_) (fun K' HK' => ?_)
  · (try go_simp)
    go_at_call 4
    (with_reducible refine (KP.out _).mono ?_)
    rintro e w5 ⟨rfl, rfl⟩
    (try dsimp only)
    (try go_simp)
    refine HK'.out _ _ ⟨Or.inr (HF.out _ HB.out), ?_⟩
    clear HK'
    (try simp only [Act.put, List.setIfInBounds_toArray, List.set_cons_zero, List.set_cons_succ])
    refine AnyX.take (i := 7) (v := ?_) rfl (by kernel_rfl) (by kernel_rfl) (by kernel_rfl) (by kernel_rfl) (fun _ _ _ h => h) (by rfl) (fun w hw => ?_) (HF.out _ HB.out) ?_
    rotate_left
    · obtain ⟨s0, s1, s2, s3, s4⟩ := hw
      go_simp
      try with_reducible rfl
    try simp only [Act.put, List.setIfInBounds_toArray, List.set_cons_zero, List.set_cons_succ]
    refine AnyX.two (i := 9) (j := 11) (by kernel_rfl) rfl rfl (fun K' HK' => ?_) (fun K' HK' => ?_)
    · go_simp
      replace HB : Hid (Below V.heap.size V (V.alloc (.cells #[.int .i64 (ek + 1), .int .i64 t, .int .i64 1, str [b]] 37)).drew) := (Below.alloc HB.out HB.out.size _)
      refine HK'.out _ _ ⟨Or.inr (HF.out _ HB.out), ?_⟩
      clear HK'
      (try simp only [Act.put, List.setIfInBounds_toArray, List.set_cons_zero, List.set_cons_succ])
      refine AnyX.take (i := 10) (v := ?_) rfl (by kernel_rfl) (by kernel_rfl) (by kernel_rfl) (by kernel_rfl) (fun _ _ _ h => h) (by rfl) (fun w hw => ?_) (HF.out _ HB.out) ?_
      rotate_left
      · obtain ⟨s0, s1, s2, s3, s4⟩ := hw
        go_simp
        try with_reducible rfl
      try simp only [Act.put, List.setIfInBounds_toArray, List.set_cons_zero, List.set_cons_succ]
      refine AnyX.one (i := 11) (by kernel_rfl) rfl (fun K' HK' => ?_)
      go_simp
      replace HB : Hid (Below V.heap.size V ((V.alloc (.cells #[.int .i64 (ek + 1), .int .i64 t, .int .i64 1, str [b]] 37)).alloc (.cells #[.int .i64 0, .int .i64 0, .int .i64 0, .bool false, .slice none 0 0, .int .i64 0, .int .i64 0, .slice none 0 0, .slice none 0 0, .slice none 0 0, .string ⟨#[]⟩, .slice none 0 0, .slice none 0 0, .slice none 0 0, .slice none 0 0] 41)).drew) := (Below.alloc HB.out HB.out.size _)
      refine HK'.out _ _ ⟨Or.inr (HF.out _ HB.out), ?_⟩
      clear HK'
      (try simp only [Act.put, List.setIfInBounds_toArray, List.set_cons_zero, List.set_cons_succ])
      refine AnyX.one (i := 12) (by kernel_rfl) rfl (fun K' HK' => ?_)
      go_simp
      refine HK'.out _ _ ⟨Or.inl rfl, ?_⟩
      clear HK'
      refine AnyX.done (by kernel_rfl) ?_ _
      go_wp2_with fail
      (refine HK.out _ _ _ _ _ _ _ _ _ _ _ _ _ ?_; exact ⟨_, rfl, ready_ez⟩)
    · go_simp
      replace HB : Hid (Below V.heap.size V (V.alloc (.cells #[.int .i64 0, .int .i64 0, .int .i64 0, .bool false, .slice none 0 0, .int .i64 0, .int .i64 0, .slice none 0 0, .slice none 0 0, .slice none 0 0, .string ⟨#[]⟩, .slice none 0 0, .slice none 0 0, .slice none 0 0, .slice none 0 0] 41)).drew) := (Below.alloc HB.out HB.out.size _)
      refine HK'.out _ _ ⟨Or.inr (HF.out _ HB.out), ?_⟩
      clear HK'
      (try simp only [Act.put, List.setIfInBounds_toArray, List.set_cons_zero, List.set_cons_succ])
      refine AnyX.one (i := 9) (by kernel_rfl) rfl (fun K' HK' => ?_)
      go_simp
      replace HB : Hid (Below V.heap.size V ((V.alloc (.cells #[.int .i64 0, .int .i64 0, .int .i64 0, .bool false, .slice none 0 0, .int .i64 0, .int .i64 0, .slice none 0 0, .slice none 0 0, .slice none 0 0, .string ⟨#[]⟩, .slice none 0 0, .slice none 0 0, .slice none 0 0, .slice none 0 0] 41)).alloc (.cells #[.int .i64 (ek + 1), .int .i64 t, .int .i64 1, str [b]] 37)).drew) := (Below.alloc HB.out HB.out.size _)
      refine HK'.out _ _ ⟨Or.inr (HF.out _ HB.out), ?_⟩
      clear HK'
      (try simp only [Act.put, List.setIfInBounds_toArray, List.set_cons_zero, List.set_cons_succ])
      refine AnyX.take (i := 10) (v := ?_) rfl (by kernel_rfl) (by kernel_rfl) (by kernel_rfl) (by kernel_rfl) (fun _ _ _ h => h) (by rfl) (fun w hw => ?_) (HF.out _ HB.out) ?_
      rotate_left
      · obtain ⟨s0, s1, s2, s3, s4⟩ := hw
        go_simp
        try with_reducible rfl
      try simp only [Act.put, List.setIfInBounds_toArray, List.set_cons_zero, List.set_cons_succ]
      refine AnyX.one (i := 12) (by kernel_rfl) rfl (fun K' HK' => ?_)
      go_simp
      refine HK'.out _ _ ⟨Or.inl rfl, ?_⟩
      clear HK'
      refine AnyX.done (by kernel_rfl) ?_ _
      go_wp2_with fail
      (refine HK.out _ _ _ _ _ _ _ _ _ _ _ _ _ ?_; exact ⟨_, rfl, ready_ze⟩)
  · go_simp
    replace HB : Hid (Below V.heap.size V (V.alloc (.cells #[.int .i64 (ek + 1), .int .i64 t, .int .i64 1, str [b]] 37)).drew) := (Below.alloc HB.out HB.out.size _)
    refine HK'.out _ _ ⟨Or.inr (HF.out _ HB.out), ?_⟩
    clear HK'
    (try simp only [Act.put, List.setIfInBounds_toArray, List.set_cons_zero, List.set_cons_succ])
    refine AnyX.two (i := 5) (j := 11) (by kernel_rfl) rfl rfl (fun K' HK' => ?_) (fun K' HK' => ?_)
    · (try go_simp)
      go_at_call 4
      (with_reducible refine (KP.out _).mono ?_)
      rintro e w5 ⟨rfl, rfl⟩
      (try dsimp only)
      (try go_simp)
      refine HK'.out _ _ ⟨Or.inr (HF.out _ HB.out), ?_⟩
      clear HK'
      (try simp only [Act.put, List.setIfInBounds_toArray, List.set_cons_zero, List.set_cons_succ])
      refine AnyX.take (i := 7) (v := ?_) rfl (by kernel_rfl) (by kernel_rfl) (by kernel_rfl) (by kernel_rfl) (fun _ _ _ h => h) (by rfl) (fun w hw => ?_) (HF.out _ HB.out) ?_
      rotate_left
      · obtain ⟨s0, s1, s2, s3, s4⟩ := hw
        go_simp
        try with_reducible rfl
      try simp only [Act.put, List.setIfInBounds_toArray, List.set_cons_zero, List.set_cons_succ]
      refine AnyX.take (i := 10) (v := ?_) rfl (by kernel_rfl) (by kernel_rfl) (by kernel_rfl) (by kernel_rfl) (fun _ _ _ h => h) (by rfl) (fun w hw => ?_) (HF.out _ HB.out) ?_
      rotate_left
      · obtain ⟨s0, s1, s2, s3, s4⟩ := hw
        go_simp
        try with_reducible rfl
      try simp only [Act.put, List.setIfInBounds_toArray, List.set_cons_zero, List.set_cons_succ]
      refine AnyX.one (i := 11) (by kernel_rfl) rfl (fun K' HK' => ?_)
      go_simp
      replace HB : Hid (Below V.heap.size V ((V.alloc (.cells #[.int .i64 (ek + 1), .int .i64 t, .int .i64 1, str [b]] 37)).alloc (.cells #[.int .i64 0, .int .i64 0, .int .i64 0, .bool false, .slice none 0 0, .int .i64 0, .int .i64 0, .slice none 0 0, .slice none 0 0, .slice none 0 0, .string ⟨#[]⟩, .slice none 0 0, .slice none 0 0, .slice none 0 0, .slice none 0 0] 41)).drew) := (Below.alloc HB.out HB.out.size _)
      refine HK'.out _ _ ⟨Or.inr (HF.out _ HB.out), ?_⟩
      clear HK'
      (try simp only [Act.put, List.setIfInBounds_toArray, List.set_cons_zero, List.set_cons_succ])
      refine AnyX.one (i := 12) (by kernel_rfl) rfl (fun K' HK' => ?_)
      go_simp
      refine HK'.out _ _ ⟨Or.inl rfl, ?_⟩
      clear HK'
      refine AnyX.done (by kernel_rfl) ?_ _
      go_wp2_with fail
      (refine HK.out _ _ _ _ _ _ _ _ _ _ _ _ _ ?_; exact ⟨_, rfl, ready_ez⟩)
    · go_simp
      replace HB : Hid (Below V.heap.size V ((V.alloc (.cells #[.int .i64 (ek + 1), .int .i64 t, .int .i64 1, str [b]] 37)).alloc (.cells #[.int .i64 0, .int .i64 0, .int .i64 0, .bool false, .slice none 0 0, .int .i64 0, .int .i64 0, .slice none 0 0, .slice none 0 0, .slice none 0 0, .string ⟨#[]⟩, .slice none 0 0, .slice none 0 0, .slice none 0 0, .slice none 0 0] 41)).drew) := (Below.alloc HB.out HB.out.size _)
      refine HK'.out _ _ ⟨Or.inr (HF.out _ HB.out), ?_⟩
      clear HK'
      (try simp only [Act.put, List.setIfInBounds_toArray, List.set_cons_zero, List.set_cons_succ])
      refine AnyX.one (i := 5) (by kernel_rfl) rfl (fun K' HK' => ?_)
      (try go_simp)
      go_at_call 4
      (with_reducible refine (KP.out _).mono ?_)
      rintro e w5 ⟨rfl, rfl⟩
      (try dsimp only)
      (try go_simp)
      refine HK'.out _ _ ⟨Or.inr (HF.out _ HB.out), ?_⟩
      clear HK'
      (try simp only [Act.put, List.setIfInBounds_toArray, List.set_cons_zero, List.set_cons_succ])
      refine AnyX.take (i := 7) (v := ?_) rfl (by kernel_rfl) (by kernel_rfl) (by kernel_rfl) (by kernel_rfl) (fun _ _ _ h => h) (by rfl) (fun w hw => ?_) (HF.out _ HB.out) ?_
      rotate_left
      · obtain ⟨s0, s1, s2, s3, s4⟩ := hw
        go_simp
        try with_reducible rfl
      try simp only [Act.put, List.setIfInBounds_toArray, List.set_cons_zero, List.set_cons_succ]
      refine AnyX.take (i := 10) (v := ?_) rfl (by kernel_rfl) (by kernel_rfl) (by kernel_rfl) (by kernel_rfl) (fun _ _ _ h => h) (by rfl) (fun w hw => ?_) (HF.out _ HB.out) ?_
      rotate_left
      · obtain ⟨s0, s1, s2, s3, s4⟩ := hw
        go_simp
        try with_reducible rfl
      try simp only [Act.put, List.setIfInBounds_toArray, List.set_cons_zero, List.set_cons_succ]
      refine AnyX.one (i := 12) (by kernel_rfl) rfl (fun K' HK' => ?_)
      go_simp
      refine HK'.out _ _ ⟨Or.inl rfl, ?_⟩
      clear HK'
      refine AnyX.done (by kernel_rfl) ?_ _
      go_wp2_with fail
      (refine HK.out _ _ _ _ _ _ _ _ _ _ _ _ _ ?_; exact ⟨_, rfl, ready_ez⟩)
  · go_simp
    replace HB : Hid (Below V.heap.size V (V.alloc (.cells #[.int .i64 0, .int .i64 0, .int .i64 0, .bool false, .slice none 0 0, .int .i64 0, .int .i64 0, .slice none 0 0, .slice none 0 0, .slice none 0 0, .string ⟨#[]⟩, .slice none 0 0, .slice none 0 0, .slice none 0 0, .slice none 0 0] 41)).drew) := (Below.alloc HB.out HB.out.size _)
    refine HK'.out _ _ ⟨Or.inr (HF.out _ HB.out), ?_⟩
    clear HK'
    (try simp only [Act.put, List.setIfInBounds_toArray, List.set_cons_zero, List.set_cons_succ])
    refine AnyX.two (i := 5) (j := 9) (by kernel_rfl) rfl rfl (fun K' HK' => ?_) (fun K' HK' => ?_)
    · (try go_simp)
      go_at_call 4
      (with_reducible refine (KP.out _).mono ?_)
      rintro e w5 ⟨rfl, rfl⟩
      (try dsimp only)
      (try go_simp)
      refine HK'.out _ _ ⟨Or.inr (HF.out _ HB.out), ?_⟩
      clear HK'
      (try simp only [Act.put, List.setIfInBounds_toArray, List.set_cons_zero, List.set_cons_succ])
      refine AnyX.take (i := 7) (v := ?_) rfl (by kernel_rfl) (by kernel_rfl) (by kernel_rfl) (by kernel_rfl) (fun _ _ _ h => h) (by rfl) (fun w hw => ?_) (HF.out _ HB.out) ?_
      rotate_left
      · obtain ⟨s0, s1, s2, s3, s4⟩ := hw
        go_simp
        try with_reducible rfl
      try simp only [Act.put, List.setIfInBounds_toArray, List.set_cons_zero, List.set_cons_succ]
      refine AnyX.one (i := 9) (by kernel_rfl) rfl (fun K' HK' => ?_)
      go_simp
      replace HB : Hid (Below V.heap.size V ((V.alloc (.cells #[.int .i64 0, .int .i64 0, .int .i64 0, .bool false, .slice none 0 0, .int .i64 0, .int .i64 0, .slice none 0 0, .slice none 0 0, .slice none 0 0, .string ⟨#[]⟩, .slice none 0 0, .slice none 0 0, .slice none 0 0, .slice none 0 0] 41)).alloc (.cells #[.int .i64 (ek + 1), .int .i64 t, .int .i64 1, str [b]] 37)).drew) := (Below.alloc HB.out HB.out.size _)
      refine HK'.out _ _ ⟨Or.inr (HF.out _ HB.out), ?_⟩
      clear HK'
      (try simp only [Act.put, List.setIfInBounds_toArray, List.set_cons_zero, List.set_cons_succ])
      refine AnyX.take (i := 10) (v := ?_) rfl (by kernel_rfl) (by kernel_rfl) (by kernel_rfl) (by kernel_rfl) (fun _ _ _ h => h) (by rfl) (fun w hw => ?_) (HF.out _ HB.out) ?_
      rotate_left
      · obtain ⟨s0, s1, s2, s3, s4⟩ := hw
        go_simp
        try with_reducible rfl
      try simp only [Act.put, List.setIfInBounds_toArray, List.set_cons_zero, List.set_cons_succ]
      refine AnyX.one (i := 12) (by kernel_rfl) rfl (fun K' HK' => ?_)
      go_simp
      refine HK'.out _ _ ⟨Or.inl rfl, ?_⟩
      clear HK'
      refine AnyX.done (by kernel_rfl) ?_ _
      go_wp2_with fail
      (refine HK.out _ _ _ _ _ _ _ _ _ _ _ _ _ ?_; exact ⟨_, rfl, ready_ze⟩)
    · go_simp
      replace HB : Hid (Below V.heap.size V ((V.alloc (.cells #[.int .i64 0, .int .i64 0, .int .i64 0, .bool false, .slice none 0 0, .int .i64 0, .int .i64 0, .slice none 0 0, .slice none 0 0, .slice none 0 0, .string ⟨#[]⟩, .slice none 0 0, .slice none 0 0, .slice none 0 0, .slice none 0 0] 41)).alloc (.cells #[.int .i64 (ek + 1), .int .i64 t, .int .i64 1, str [b]] 37)).drew) := (Below.alloc HB.out HB.out.size _)
      refine HK'.out _ _ ⟨Or.inr (HF.out _ HB.out), ?_⟩
      clear HK'
      (try simp only [Act.put, List.setIfInBounds_toArray, List.set_cons_zero, List.set_cons_succ])
      refine AnyX.one (i := 5) (by kernel_rfl) rfl (fun K' HK' => ?_)
      (try go_simp)
      go_at_call 4
      (with_reducible refine (KP.out _).mono ?_)
      rintro e w5 ⟨rfl, rfl⟩
      (try dsimp only)
      (try go_simp)
      refine HK'.out _ _ ⟨Or.inr (HF.out _ HB.out), ?_⟩
      clear HK'
      (try simp only [Act.put, List.setIfInBounds_toArray, List.set_cons_zero, List.set_cons_succ])
      refine AnyX.take (i := 7) (v := ?_) rfl (by kernel_rfl) (by kernel_rfl) (by kernel_rfl) (by kernel_rfl) (fun _ _ _ h => h) (by rfl) (fun w hw => ?_) (HF.out _ HB.out) ?_
      rotate_left
      · obtain ⟨s0, s1, s2, s3, s4⟩ := hw
        go_simp
        try with_reducible rfl
      try simp only [Act.put, List.setIfInBounds_toArray, List.set_cons_zero, List.set_cons_succ]
      refine AnyX.take (i := 10) (v := ?_) rfl (by kernel_rfl) (by kernel_rfl) (by kernel_rfl) (by kernel_rfl) (fun _ _ _ h => h) (by rfl) (fun w hw => ?_) (HF.out _ HB.out) ?_
      rotate_left
      · obtain ⟨s0, s1, s2, s3, s4⟩ := hw
        go_simp
        try with_reducible rfl
      try simp only [Act.put, List.setIfInBounds_toArray, List.set_cons_zero, List.set_cons_succ]
      refine AnyX.one (i := 12) (by kernel_rfl) rfl (fun K' HK' => ?_)
      go_simp
      refine HK'.out _ _ ⟨Or.inl rfl, ?_⟩
      clear HK'
      refine AnyX.done (by kernel_rfl) ?_ _
      go_wp2_with fail
      (refine HK.out _ _ _ _ _ _ _ _ _ _ _ _ _ ?_; exact ⟨_, rfl, ready_ze⟩)
end Go.Proofs.Ytjlhlmnoomiblaa
