/-
  WireBack: the law's walk: the message is built.
-/
import Derived.Test.YtcgfbmlmpcfbgaaWba
import Derived.Test.YtcgfbmlmpcfbgaaPk
import Derived.Deep.RegionHeld3
namespace Go.Proofs.Ytcgfbmlmpcfbgaa
open Go.RowKit Wm Mm Lg
set_option linter.unusedVariables false
set_option linter.unusedSimpArgs false

theorem two_alloc (W : World) (c1 c2 : Array Value) (T1 T2 : TypeId) : ((W.alloc (.cells c1 T1)).alloc (.cells c2 T2)).drew.heap[W.heap.size]? = some (.cells c1 T1 (0, 0)) ∧ ((W.alloc (.cells c1 T1)).alloc (.cells c2 T2)).drew.heap[W.heap.size + 1]? = some (.cells c2 T2 (0, 0)) ∧ Below W.heap.size W ((W.alloc (.cells c1 T1)).alloc (.cells c2 T2)).drew :=
  ⟨(hp_past _ _ (by simp)).trans (hp_at _ _ rfl), hp_at _ _ (by simp), (((Below.refl _ _).alloc (Nat.le_refl _) _).alloc (by simp) _).drew⟩
theorem ents_one {w : World} {E : Nat} {x : Ent} (h : w.heap[E]? = some (.cells #[.int .i64 x.index, .int .i64 x.term, .int .i64 x.kind, str x.data] 34 (0, 0))) : Ents (fun _ => True) w (.slice (some ⟨E, 0, none⟩) 1 1) [entOf x] := by
  refine ⟨_, _, rfl, ⟨Nat.le_refl _, fun h => by cases h⟩, by simp, fun _ => ⟨E, 0, rfl, trivial, lt_of_block h, fun j y hj => ?_⟩⟩
  have hj2 : j = 0 ∧ y = entOf x := by
    cases j with
    | zero => exact ⟨rfl, by simpa using hj.symm⟩
    | succ j => simp at hj
  obtain ⟨rfl, rfl⟩ := hj2
  refine ⟨rowE (entOf x), rfl, rfl, fun i u hu => ?_⟩
  simp only [Nat.zero_mul, Nat.zero_add]
  exact cell_n h i (by simpa using hu)
abbrev rowN (n0 n1 n2 n3 n4 n5 : Int) : Array Value := #[.int .i64 n0, .int .i64 n1, .int .i64 n2, .int .i64 n3, .int .i64 n4, .int .i64 n5]
set_option maxHeartbeats 4000000 in
set_option maxRecDepth 100000 in
theorem back_build {v0 v1 v2 v5 v6 v7 v8 v9 v10 v11 v12 v13 v15 v16 v17 v18 v19 v20 v21 v22 v23 v24 v25 v26 v27 v28 v29 v30 v31 v32 v33 v34 v35 v36 v37 v38 v39 v40 v41 v42 v43 v44 v45 v46 v47 v48 v49 v50 v51 v52 v53 v54 v55 v56 v57 v58 v59 v60 v61 v62 v63 v64 v65 v66 v67 v68 v69 v70 v71 v72 v73 v74 v75 v76 v77 v78 v79 v80 v81 v82 v83 v84 v85 v86 v87 v88 v89 v90 v91 v92 v93 v94 v95 v96 v97 v98 v99 v100 v101 v102 v103 v104 v105 v106 v107 v108 v109 v110 v111 v112 v113 v114 v115 v116 v117 v118 v119 v120 v121 v122 v123 v124 v125 v126 v127 v128 v129 v130 v131 v132 v133 v134 v135 v136 v137 v138 v139 v140 v141 v142 v143 v144 v145 v146 v147 v148 v149 v150 v151 v152 v153 v154 v155 v156 v157 v158 v159 v160 v161 v162 v163 v164 v165 v166 v167 v168 v169 v170 v171 v172 v173 v174 v175 v176 v177 v178 v179 v180 v181 v182 v183 v184 v185 v186 v187 v188 v189 v190 v191 v192 v193 v194 v195 v196 v197 v198 v199 v200 v201 v202 v203 v204 v205 v206 v207 v208 v209 v210 v211 v212 v213 v214 v215 v216 v217 v218 v219 v220 v221 v222 v223 v224 v225 v226 v227 v228 v229 v230 v231 v232 v233 v234 v235 v236 v237 v238 v239 v240 v241 v242 v243 v244 v245 v246 v247 v248 v249 v250 : Value} (x : Ent) (n0 n1 n2 n3 n4 n5 : Int) (rest : List UInt8) (X N : Nat) (W : World) (post : Ending → World → Prop) (hr : rest.length ≤ 9223372036000000000)
    (he : isEntry x.index x.term x.kind x.data = true) (h1 : 1 ≤ x.index) (h2 : x.index ≤ 1073741824) (h3 : 1 ≤ x.term) (h4 : x.term ≤ 1073741824)
    (HX : Hid (W.heap[X]? = some (.cells #[.int .i64 x.index, .int .i64 x.term, .int .i64 x.kind, str x.data] 34 (0, 0)))) (HN : Hid (W.heap[N]? = some (.cells (rowN n0 n1 n2 n3 n4 n5) 22 (0, 0)))) (Hp : Hid (∀ w', Below W.heap.size W w' → post (.returned (.bool true)) w')) :
    Code.wp Try.prog ((Try.f3.body.bind (seqAt 21)).getD .skip) (bodyPost Try.prog Try.f3 post) ⟨#[v0, v1, v2, str rest, .pointer (some ⟨N, 0, none⟩), v5, v6, v7, v8, v9, v10, v11, v12, v13, .pointer (some ⟨X, 0, none⟩), v15, v16, v17, v18, v19, v20, v21, v22, v23, v24, v25, v26, v27, v28, v29, v30, v31, v32, v33, v34, v35, v36, v37, v38, v39, v40, v41, v42, v43, v44, v45, v46, v47, v48, v49, v50, v51, v52, v53, v54, v55, v56, v57, v58, v59, v60, v61, v62, v63, v64, v65, v66, v67, v68, v69, v70, v71, v72, v73, v74, v75, v76, v77, v78, v79, v80, v81, v82, v83, v84, v85, v86, v87, v88, v89, v90, v91, v92, v93, v94, v95, v96, v97, v98, v99, v100, v101, v102, v103, v104, v105, v106, v107, v108, v109, v110, v111, v112, v113, v114, v115, v116, v117, v118, v119, v120, v121, v122, v123, v124, v125, v126, v127, v128, v129, v130, v131, v132, v133, v134, v135, v136, v137, v138, v139, v140, v141, v142, v143, v144, v145, v146, v147, v148, v149, v150, v151, v152, v153, v154, v155, v156, v157, v158, v159, v160, v161, v162, v163, v164, v165, v166, v167, v168, v169, v170, v171, v172, v173, v174, v175, v176, v177, v178, v179, v180, v181, v182, v183, v184, v185, v186, v187, v188, v189, v190, v191, v192, v193, v194, v195, v196, v197, v198, v199, v200, v201, v202, v203, v204, v205, v206, v207, v208, v209, v210, v211, v212, v213, v214, v215, v216, v217, v218, v219, v220, v221, v222, v223, v224, v225, v226, v227, v228, v229, v230, v231, v232, v233, v234, v235, v236, v237, v238, v239, v240, v241, v242, v243, v244, v245, v246, v247, v248, v249, v250], []⟩ W := by
  conv => arg 2; whnf
  have K1 : Hid (∀ w1, Calls Try.prog 4 #[.int .i64 n1, .int .i64 1073741824] w1 fun e w' => e = .returned (.int .i64 (pickN n1 1073741824 : Nat)) ∧ w1 = w') := fun w1 => pick_any n1 1073741824 w1 (by omega) (by omega)
  have K2 : Hid (∀ w1, Calls Try.prog 4 #[.int .i64 n2, .int .i64 1073741824] w1 fun e w' => e = .returned (.int .i64 (pickN n2 1073741824 : Nat)) ∧ w1 = w') := fun w1 => pick_any n2 1073741824 w1 (by omega) (by omega)
  have b1 := pickN_lt (c := n1) (n := 1073741824) (by omega)
  have b2 := pickN_lt (c := n2) (n := 1073741824) (by omega)
  obtain ⟨mc, hmc⟩ := hide (pickN n1 1073741824)
  obtain ⟨mx, hmx⟩ := hide (pickN n2 1073741824)
  rw [hmc.out] at K1 b1
  rw [hmx.out] at K2 b2
  have x0 := cell_n HX.out 0 (v := .int .i64 x.index) rfl
  have x1 := cell_n HX.out 1 (v := .int .i64 x.term) rfl
  have x2 := cell_n HX.out 2 (v := .int .i64 x.kind) rfl
  have x3 := cell_n HX.out 3 (v := str x.data) rfl
  have m1 := cell_n HN.out 1 (v := .int .i64 n1) rfl
  have m2 := cell_n HN.out 2 (v := .int .i64 n2) rfl
  have w1 : IntKind.i64.wrap ((x.term : Int) + 1) = (x.term : Int) + 1 := IntWalk.i64_in _ (by omega)
  have w2 : IntKind.i64.wrap ((x.index : Int) - 1) = (x.index : Int) - 1 := IntWalk.i64_in _ (by omega)
  have He := Lib.hid he
  have B1 := Lib.hid b1
  have B2 := Lib.hid b2
  have H1 := Lib.hid h1
  have H2 := Lib.hid h2
  have H3 := Lib.hid h3
  have H4 := Lib.hid h4
  have hXl := lt_of_block HX.out
  have hNl := lt_of_block HN.out
  have hXn : W.heap.size ≠ X := by omega
  have hNn : W.heap.size ≠ N := by omega
  clear he b1 b2 h1 h2 h3 h4 hmc hmx
  go_upto_region 21 with fail
  try dsimp only
  go_cut [21] from 136 to 152 (fun c21 wc => ∃ (Mb Eb : Nat), c21 = .pointer (some ⟨Mb, 0, none⟩) ∧ Hid (wc.heap[Mb]? = some (.cells #[.int .i64 5, .int .i64 1, .int .i64 2, .int .i64 ((x.term : Int) + 1), .int .i64 ((x.index : Int) - 1), .int .i64 (x.term : Nat), .int .i64 (mc : Nat), .slice (some ⟨Eb, 0, none⟩) 1 1, .int .i64 0, .int .i64 0, .slice none 0 0, .slice none 0 0, .slice none 0 0, .string ⟨#[]⟩, .bool false, .int .i64 0, .int .i64 (mx : Nat)] 50 (0, 0))) ∧ Hid (wc.heap[Eb]? = some (.cells #[.int .i64 x.index, .int .i64 x.term, .int .i64 x.kind, str x.data] 34 (0, 0))) ∧ Hid (Below W.heap.size W wc) ∧ Hid (W.heap.size ≤ Mb))
  case first =>
    go_region_held3 (fun w' => w'.cell? ⟨X, 0, none⟩ = some (.int .i64 (x.index : Nat)) ∧ w'.cell? ⟨X, 1, none⟩ = some (.int .i64 (x.term : Nat)) ∧ w'.cell? ⟨X, 2, none⟩ = some (.int .i64 (x.kind : Nat)) ∧ w'.cell? ⟨X, 3, none⟩ = some (str x.data) ∧ w'.cell? ⟨N, 1, none⟩ = some (.int .i64 n1) ∧ w'.cell? ⟨N, 2, none⟩ = some (.int .i64 n2)) (first | with_reducible exact ⟨x0, x1, x2, x3, m1, m2⟩ | go_keep) (first
      | (go_at_call 4; (with_reducible refine (K1.out _).mono ?_); rintro e w2 ⟨rfl, rfl⟩)
      | (go_at_call 4; (with_reducible refine (K2.out _).mono ?_); rintro e w2 ⟨rfl, rfl⟩))
    all_goals
      go_wp2_with fail
      go_meet
      first
        | exact ⟨W.heap.size + 1, W.heap.size, rfl, (two_alloc W _ _ _ _).2.1, (two_alloc W _ _ _ _).1, (two_alloc W _ _ _ _).2.2, Nat.le_succ _⟩
        | exact ⟨W.heap.size, W.heap.size + 1, rfl, (two_alloc W _ _ _ _).1, (two_alloc W _ _ _ _).2.1, (two_alloc W _ _ _ _).2.2, Nat.le_refl _⟩
  case rest =>
    obtain ⟨Mb, Eb, rfl, hm, hee, hbb, hfresh⟩ := hcut
    obtain ⟨W2, hW2⟩ : ∃ V, V = wc := ⟨_, rfl⟩
    subst hW2
    have HX2 : Hid (W2.heap[X]? = some (.cells #[.int .i64 x.index, .int .i64 x.term, .int .i64 x.kind, str x.data] 34 (0, 0))) := (hbb.out.block X hXl).trans HX.out
    have HP2 : Hid (∀ w', Below W2.heap.size W2 w' → post (.returned (.bool true)) w') := fun w' h => Hp.out w' (hbb.out.trans (h.mono hbb.out.size))
    clear x0 x1 x2 x3 m1 m2 hXl hNl hXn hNn w1 w2
    have m4 := cell_n hm.out 4 (v := .int .i64 ((x.index : Int) - 1)) rfl
    by_cases hi : x.index = 1
    · have t1 : ((x.index : Int) - 1 == 0) = true := beq_iff_eq.2 (by omega)
      have hmb := lt_of_block hm.out
      obtain ⟨W3, hW3⟩ := hide (W2.setCell ⟨Mb, 5, none⟩ (.int .i64 0))
      have hok := back_ok (c := mc) (x := mx) (l := 0) He.out H1.out H2.out H3.out H4.out (by have := B1.out; omega) (by have := B2.out; omega) (Or.inl ⟨hi, rfl⟩)
      have Hok := Lib.hid hok
      have hne : Mb ≠ X := fun e => by
        have h := hm.out
        rw [e, HX2.out] at h
        injection h with h
        injection h with _ h _
        revert h
        decide
      have hne2 : Mb ≠ Eb := fun e => by
        have h := hm.out
        rw [e, hee.out] at h
        injection h with h
        injection h with _ h _
        revert h
        decide
      have HM3 : Hid (W3.heap[Mb]? = some (.cells (rowMsg (appMsg 1 2 (x.term + 1) (x.index - 1) 0 mc mx x) (.slice (some ⟨Eb, 0, none⟩) 1 1) (.slice none 0 0) (.slice none 0 0) (.slice none 0 0)).toArray 50 (0, 0))) := by
        show _ = some (Obj.cells #[.int .i64 5, .int .i64 1, .int .i64 2, .int .i64 ((x.term + 1 : Nat) : Int), .int .i64 ((x.index - 1 : Nat) : Int), .int .i64 ((0 : Nat) : Int), .int .i64 (mc : Nat), .slice (some ⟨Eb, 0, none⟩) 1 1, .int .i64 0, .int .i64 0, .slice none 0 0, .slice none 0 0, .slice none 0 0, .string ⟨#[]⟩, .bool false, .int .i64 0, .int .i64 (mx : Nat)] _ _)
        rw [show ((x.term + 1 : Nat) : Int) = (x.term : Int) + 1 from by omega, show ((x.index - 1 : Nat) : Int) = (x.index : Int) - 1 from by have := H1.out; omega, ← hW3.out, heap_setCell, if_pos rfl, hm.out]
        rfl
      have HX3 : Hid (W3.heap[X]? = some (.cells #[.int .i64 x.index, .int .i64 x.term, .int .i64 x.kind, str x.data] 34 (0, 0))) := by show _ = _; rw [← hW3.out]; exact hp_set_other HX2.out hne
      have HE3 : Hid (Ents (fun _ => True) W3 (.slice (some ⟨Eb, 0, none⟩) 1 1) [entOf x]) := by
        show Ents _ _ _ _
        refine ents_one ?_
        rw [← hW3.out]
        exact hp_set_other hee.out hne2
      have HP3 : Hid (∀ w', Below W3.heap.size W3 w' → post (.returned (.bool true)) w') := by
        show ∀ w', _ → _
        intro w' h
        have hz : W3.heap.size = W2.heap.size := by rw [← hW3.out]; simp
        have h2 : Below W.heap.size W W3 := by
          rw [← hW3.out]
          exact hbb.out.setCell hfresh.out _
        exact Hp.out w' (h2.trans (h.mono h2.size))
      have c5 := cell_n hm.out 5 (v := .int .i64 (x.term : Nat)) rfl
      have f5 := free_n hm.out 5
      rw [← hW3.out] at HM3 HX3 HE3 HP3
      clear hi hmb hne hne2 hok
      go_upto_region 23 with fail
      iterate 24 (first | done | exact back_msg x (x.term + 1) (x.index - 1) 0 mc mx rest Mb X Eb 0 1 (fun _ => True) _ post hr Hok.out HM3 HX3 HE3 HP3 | go_step)
    · have t1 : ((x.index : Int) - 1 == 0) = false := beq_eq_false_iff_ne.2 (by omega)
      have hok := back_ok (c := mc) (x := mx) (l := x.term) He.out H1.out H2.out H3.out H4.out (by have := B1.out; omega) (by have := B2.out; omega) (Or.inr ⟨hi, rfl⟩)
      have Hok := Lib.hid hok
      have HM3 : Hid (W2.heap[Mb]? = some (.cells (rowMsg (appMsg 1 2 (x.term + 1) (x.index - 1) x.term mc mx x) (.slice (some ⟨Eb, 0, none⟩) 1 1) (.slice none 0 0) (.slice none 0 0) (.slice none 0 0)).toArray 50 (0, 0))) := by
        show _ = some (Obj.cells #[.int .i64 5, .int .i64 1, .int .i64 2, .int .i64 ((x.term + 1 : Nat) : Int), .int .i64 ((x.index - 1 : Nat) : Int), .int .i64 (x.term : Nat), .int .i64 (mc : Nat), .slice (some ⟨Eb, 0, none⟩) 1 1, .int .i64 0, .int .i64 0, .slice none 0 0, .slice none 0 0, .slice none 0 0, .string ⟨#[]⟩, .bool false, .int .i64 0, .int .i64 (mx : Nat)] _ _)
        rw [show ((x.term + 1 : Nat) : Int) = (x.term : Int) + 1 from by omega, show ((x.index - 1 : Nat) : Int) = (x.index : Int) - 1 from by have := H1.out; omega]
        exact hm.out
      have HE3 : Hid (Ents (fun _ => True) W2 (.slice (some ⟨Eb, 0, none⟩) 1 1) [entOf x]) := ents_one hee.out
      clear hi hok
      iterate 24 (first | done | exact back_msg x (x.term + 1) (x.index - 1) x.term mc mx rest Mb X Eb 0 1 (fun _ => True) W2 post hr Hok.out HM3 HX2 HE3 HP2 | go_step)
end Go.Proofs.Ytcgfbmlmpcfbgaa
