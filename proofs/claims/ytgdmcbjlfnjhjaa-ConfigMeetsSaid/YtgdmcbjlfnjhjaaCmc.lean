/-
  ConfigMeets: the law: a change begins; all voters.
-/
import Derived.Test.YtgdmcbjlfnjhjaaCmb
import Derived.Deep.DeepCutAuto
import Derived.Deep.CutRange
import Derived.Deep.RegionLaw
namespace Go.Proofs.Ytgdmcbjlfnjhjaa
open Go.RowKit Wm Mm
set_option linter.unusedVariables false
set_option linter.unusedSimpArgs false

set_option maxHeartbeats 4000000 in
set_option maxRecDepth 100000 in
theorem meets_m1 {v0 v1 v2 v3 v4 v5 v6 v7 v8 v9 v10 v13 v14 v15 v16 v21 v22 v23 v24 v25 v26 v27 v28 v29 v30 v31 v32 v33 v34 v35 v36 v37 v38 v39 v40 v41 v42 v43 v44 v45 v46 v47 v48 v49 v50 v51 v52 v53 v54 v55 v56 v57 v58 v59 v60 v61 v62 v63 v64 v65 v66 v67 v68 v69 v70 v71 v72 v73 v74 v75 v76 v77 v78 v79 v80 v81 v82 v83 v84 v85 v86 v87 v88 v89 v90 v91 v92 v93 v94 v95 v96 v97 v98 v99 v100 v101 v102 v103 v104 v105 v106 v107 v108 v109 v110 v111 v112 v113 v114 v115 v116 v117 v118 v119 v120 v121 v122 v123 v124 v125 v126 v127 v128 v129 v130 v131 v132 v133 v134 v135 v136 v137 v138 v139 v140 v141 v142 v143 v144 v145 v146 v147 v148 v149 v150 v151 v152 v153 v154 v155 v156 v157 v158 v159 v160 v161 v162 v163 v164 v165 v166 v167 v168 v169 v170 v171 v172 v173 v174 v175 v176 v177 v178 v179 v180 v181 v182 v183 v184 v185 v186 v187 v188 v189 v190 v191 v192 v193 v194 v195 v196 v197 v198 v199 v200 v201 v202 v203 v204 v205 v206 v207 v208 v209 v210 v211 v212 v213 v214 v215 v216 v217 v218 v219 v220 v221 v222 v223 v224 v225 v226 v227 v228 v229 v230 v231 v232 v233 v234 v235 v236 v237 v238 v239 v240 v241 v242 v243 v244 v245 v246 v247 v248 v249 v250 v251 v252 v253 v254 v255 v256 v257 v258 v259 v260 v261 v262 v263 v264 v265 v266 v267 v268 v269 v270 v271 v272 v273 v274 v275 v276 v277 v278 v279 v280 v281 v282 v283 v284 v285 v286 v287 v288 : Value} (W : World) (post : Ending → World → Prop) (HP : Hid (∀ w', Below W.heap.size W w' → post (.returned (.bool true)) w'))
    (D E : Nat) (ca cb cd ea eb ed : Value) (c d : Conf) (HC : Hid (∀ w', Below W.heap.size W w' → w'.heap[D]? = some (.cells #[ca, cb, cd] 25 (0, 0)) ∧ Config3 w' ca cb cd c)) (HE : Hid (∀ w', Below W.heap.size W w' → w'.heap[E]? = some (.cells #[ea, eb, ed] 25 (0, 0)) ∧ Config3 w' ea eb ed d)) (hc : validB c = true) (hd : validB d = true) (hlast : validB (lastP d) = true)
    (ops : List OpP) (ao : Option Addr) (co : Nat) (HO : Hid (∀ w', Below W.heap.size W w' → ops ≠ [] → ∃ b off, ao = some ⟨b, off, none⟩ ∧ ∀ j o, ops[j]? = some o → w'.cell? ⟨b, off + j * 2, none⟩ = some (.int .i64 o.kind) ∧ w'.cell? ⟨b, off + j * 2 + 1, none⟩ = some (.int .i64 o.node)))
    (va vb : Value) (pa pb : List Int) (HA : Hid (∀ w', Below W.heap.size W w' → Ints w' va pa)) (HB : Hid (∀ w', Below W.heap.size W w' → Ints w' vb pb)) (hol : ops.length ≤ 6) (Hw : Hid (∀ i (hi : i < ops.length), (∀ k (hk : k < ops.length), i < k → ops[k].node ≠ ops[i].node) → wantB ops[i] (lastP d).v (lastP d).l = true))
    (Hmeet1 : quorumB c pa = true → quorumB d pb = true → meetB pa pb (c.v ++ d.n) = true) (Hmeet2 : quorumB d pa = true → quorumB (lastP d) pb = true → meetB pa pb ((c.v ++ d.n) ++ (lastP d).v) = true) :
    Code.wp Try.prog ((Try.f4.body.bind (seqAt 21)).getD .skip) (bodyPost Try.prog Try.f4 post) ⟨#[v0, v1, v2, v3, v4, v5, v6, v7, v8, v9, v10, .pointer (some ⟨D, 0, none⟩), .slice ao ops.length co, v13, v14, v15, v16, va, vb, .pointer (some ⟨E, 0, none⟩), .int .i64 0, v21, v22, v23, v24, v25, v26, v27, v28, v29, v30, v31, v32, v33, v34, v35, v36, v37, v38, v39, v40, v41, v42, v43, v44, v45, v46, v47, v48, v49, v50, v51, v52, v53, v54, v55, v56, v57, v58, v59, v60, v61, v62, v63, v64, v65, v66, v67, v68, v69, v70, v71, v72, v73, v74, v75, v76, v77, v78, v79, v80, v81, v82, v83, v84, v85, v86, v87, v88, v89, v90, v91, v92, v93, v94, v95, v96, v97, v98, v99, v100, v101, v102, v103, v104, v105, v106, v107, v108, v109, v110, v111, v112, v113, v114, v115, v116, v117, v118, v119, v120, v121, v122, v123, v124, v125, v126, v127, v128, v129, v130, v131, v132, v133, v134, v135, v136, v137, v138, v139, v140, v141, v142, v143, v144, v145, v146, v147, v148, v149, v150, v151, v152, v153, v154, v155, v156, v157, v158, v159, v160, v161, v162, v163, v164, v165, v166, v167, v168, v169, v170, v171, v172, v173, v174, v175, v176, v177, v178, v179, v180, v181, v182, v183, v184, v185, v186, v187, v188, v189, v190, v191, v192, v193, v194, v195, v196, v197, v198, v199, v200, v201, v202, v203, v204, v205, v206, v207, v208, v209, v210, v211, v212, v213, v214, v215, v216, v217, v218, v219, v220, v221, v222, v223, v224, v225, v226, v227, v228, v229, v230, v231, v232, v233, v234, v235, v236, v237, v238, v239, v240, v241, v242, v243, v244, v245, v246, v247, v248, v249, v250, v251, v252, v253, v254, v255, v256, v257, v258, v259, v260, v261, v262, v263, v264, v265, v266, v267, v268, v269, v270, v271, v272, v273, v274, v275, v276, v277, v278, v279, v280, v281, v282, v283, v284, v285, v286, v287, v288], []⟩ W := by
  conv => arg 2; whnf
  obtain ⟨hc1, hc2, hc3⟩ := valid_lens hc
  obtain ⟨hd1, hd2, hd3⟩ := valid_lens hd
  have B0 := Below.refl W.heap.size W
  have Hd : Hid (Below W.heap.size W W.drew) := B0.drew
  have c0 : W.drew.cell? ⟨D, 0, none⟩ = some ca := cell_n (HC.out _ Hd.out).1 0 rfl
  have c1 : W.drew.cell? ⟨E, 1, none⟩ = some eb := cell_n (HE.out _ Hd.out).1 1 rfl
  have Hn : Hid (∀ w', World.ownsRow w' W.heap.size 3 1 (.slice none 0 0) 0 []) := fun w' => World.ownsRow_nil _ _ _ _
  have HS1 : Hid (∀ w', Below W.heap.size W w' → Src Try.prog 1 22 ca c.v.length (c.v.map (.int .i64)) w') := fun w' h => src_intsU Try.underlying22 (HC.out _ h).2.v
  have HS2 : Hid (∀ w', Below W.heap.size W w' → Src Try.prog 1 22 eb d.n.length (d.n.map (.int .i64)) w') := fun w' h => src_intsU Try.underlying22 (HE.out _ h).2.n
  have HSz : Hid (∀ w', Below W.heap.size W w' → W.heap.size ≤ w'.heap.size) := fun w' h => h.size
  have Hfr : Hid (∀ w1 w2, Below W.heap.size W w1 → w1.grownBy w2 (Value.slice none 0 0).ownBlock → Below W.heap.size W w2) := fun w1 w2 h1 h2 => h1.trans (below_own (World.ownsRow_nil w1 W.heap.size 3 1) h2 (Nat.le_refl _) h1.size)
  have hml : (c.v ++ d.n).length ≤ 1048576 := by rw [List.length_append]; omega
  have HX0 : Hid (∀ w', Below W.heap.size W w' → w'.cell? ⟨D, 0, none⟩ = some ca ∧ w'.cell? ⟨E, 1, none⟩ = some eb) := fun w' h => ⟨cell_n (HC.out _ h).1 0 rfl, cell_n (HE.out _ h).1 1 rfl⟩
  go_upto_region 21 with fail
  try dsimp only
  go_cut [23] from 135 to 140 (fun c23 wc => ∃ a23 k23, c23 = .slice a23 (c.v.length + d.n.length) k23 ∧ Hid (OwnI W.heap.size wc (.slice a23 (c.v.length + d.n.length) k23) (c.v ++ d.n)) ∧ Hid (Below W.heap.size W wc))
  case first =>
    obtain ⟨s1, z1, rfl, _⟩ := len_of_Ints (HC.out _ Hd.out).2.v
    obtain ⟨s2, z2, rfl, _⟩ := len_of_Ints (HE.out _ Hd.out).2.n
    go_region_law (first
      | ((refine step_append_src ?h1 (.const (.slice none 0 0)) (.tmp 136) 22 22 ?h2 W.heap.size 3 _ 1 8 Try.underlying22 info_intU rfl (.slice none 0 0) 0 [] ?e1 (Hn.out _) (.slice s1 c.v.length z1) c.v.length _ ?e2 (HS1.out _ Hd.out) (by unfold maxLen; omega) (by omega) (HSz.out _ Hd.out) ?_); (case h1 => rfl); (case h2 => rfl); (case e1 => simp [Act.eval, Act.put]); (case e2 => simp [Act.eval, Act.put]); intro v1 w1 ho1 hg1; obtain ⟨a1, k1, rfl⟩ := owns_slice ho1; have Hb4 := Lib.hid (Hfr.out _ _ Hd.out hg1); (try simp only [Nat.zero_add, List.nil_append] at ho1); have Ho1 := Lib.hid ho1; have x4 := HX0.out _ Hb4.out; have c0 := x4.1; have c1 := x4.2; clear x4 ho1 hg1)
      | ((refine step_append_src ?h1 (.tmp 137) (.tmp 139) 22 22 ?h2 W.heap.size 3 _ 1 8 Try.underlying22 info_intU rfl (.slice a1 c.v.length k1) c.v.length _ ?e1 Ho1.out (.slice s2 d.n.length z2) d.n.length _ ?e2 (HS2.out _ Hb4.out) (by unfold maxLen; omega) (by omega) (HSz.out _ Hb4.out) ?_); (case h1 => rfl); (case h2 => rfl); (case e1 => simp [Act.eval, Act.put]); (case e2 => simp [Act.eval, Act.put]); intro v2 w2 ho2 hg2; obtain ⟨a2, k2, rfl⟩ := owns_slice ho2; have Hb5 : Hid (Below W.heap.size W w2) := Hb4.out.trans (below_own Ho1.out hg2 (Nat.le_refl _) Hb4.out.size); have x4 := HX0.out _ Hb5.out; have c0 := x4.1; have c1 := x4.2; have Ho2 := Lib.hid ho2; clear x4 ho2 hg2))
    all_goals
      clear c0 c1
      go_wp2_with fail
      go_meet
      exact ⟨a2, k2, rfl, by (show World.ownsRow _ _ _ _ _ _ _); rw [List.map_append, List.length_append]; exact Ho2.out, Hb5⟩
  case rest =>
  obtain ⟨a23, c23, rfl, Hm2, H2⟩ := hcut
  obtain ⟨w2, hw2⟩ : ∃ V, V = wc := ⟨_, rfl⟩
  subst hw2
  clear c0 c1
  obtain ⟨g, hgm⟩ : ∃ g, (Value.slice a23 (c.v.length + d.n.length) c23).ownBlock = g := ⟨_, rfl⟩
  have x0 := (HC.out _ H2.out).1
  have c0 : w2.cell? ⟨D, 0, none⟩ = some ca := cell_n x0 0 rfl
  have c1 : w2.cell? ⟨D, 1, none⟩ = some cb := cell_n x0 1 rfl
  have c2 : w2.cell? ⟨D, 2, none⟩ = some cd := cell_n x0 2 rfl
  clear x0
  have HQ1 := Lib.hid (quorum_law ca cb cd va c pa w2 (HC.out _ H2.out).2 (HA.out _ H2.out) (by omega) (by omega))
  obtain ⟨q1, hq1⟩ := hide (quorumB c pa)
  obtain ⟨q2, hq2⟩ := hide (quorumB d pb)
  rw [hq1.out] at HQ1
  have HQ2 : Hid (∀ w', Below W.heap.size W w' → Calls Try.prog 14 #[.agg #[ea, eb, ed], vb] w' fun e w'' => e = .returned (.bool q2) ∧ Below w'.heap.size w' w'') := by
    show ∀ w', _ → _
    intro w' h
    rw [← hq2.out]
    exact quorum_law ea eb ed vb d pb w' (HE.out _ h).2 (HB.out _ h) (by omega) (by omega)
  go_wp2_with fail
  refine HQ1.out.mono ?_
  rintro e w3 ⟨rfl, hb3⟩
  have H3 := Lib.hid (H2.out.trans (hb3.mono H2.out.size))
  have Hm3 : Hid (OwnI W.heap.size w3 (.slice a23 (c.v.length + d.n.length) c23) (c.v ++ d.n)) := own_below Hm2.out hb3
  clear hb3 c0 c1 c2
  cases q1 with
  | false =>
    have HT : Hid (∀ w', w3.grownBy w' g → Below W.heap.size W w') := fun w' h => H3.out.trans (below_own Hm3.out (by rw [hgm]; exact h) (Nat.le_refl _) H3.out.size)
    have HP2 : Hid (∀ w', w3.grownBy w' g → post (.returned (.bool true)) w') := fun w' h => HP.out w' (HT.out _ h)
    have HE2 : Hid (∀ w', w3.grownBy w' g → w'.heap[E]? = some (.cells #[ea, eb, ed] 25 (0, 0)) ∧ Config3 w' ea eb ed d) := fun w' h => HE.out w' (HT.out _ h)
    have HO2 : Hid (∀ w', w3.grownBy w' g → ops ≠ [] → ∃ b off, ao = some ⟨b, off, none⟩ ∧ ∀ j o, ops[j]? = some o → w'.cell? ⟨b, off + j * 2, none⟩ = some (.int .i64 o.kind) ∧ w'.cell? ⟨b, off + j * 2 + 1, none⟩ = some (.int .i64 o.node)) := fun w' h => HO.out w' (HT.out _ h)
    have HA2 : Hid (∀ w', w3.grownBy w' g → Ints w' va pa) := fun w' h => HA.out w' (HT.out _ h)
    have HB2 : Hid (∀ w', w3.grownBy w' g → Ints w' vb pb) := fun w' h => HB.out w' (HT.out _ h)
    go_upto_if 155 with (fail)
    iterate 12 (first | done | exact meets_fin w3 post W.heap.size g (.slice a23 (c.v.length + d.n.length) c23) (c.v ++ d.n) Hm3 hgm H3.out.size hml HP2 E ea eb ed d HE2 hd hlast ops ao co HO2 va vb pa pb HA2 HB2 hol Hw Hmeet2 | go_step)
  | true =>
  have x0 := (HE.out _ H3.out).1
  have c0 : w3.cell? ⟨E, 0, none⟩ = some ea := cell_n x0 0 rfl
  have c1 : w3.cell? ⟨E, 1, none⟩ = some eb := cell_n x0 1 rfl
  have c2 : w3.cell? ⟨E, 2, none⟩ = some ed := cell_n x0 2 rfl
  clear x0
  go_wp2_with fail
  refine (HQ2.out _ H3.out).mono ?_
  rintro e w4 ⟨rfl, hb4⟩
  have H4 := Lib.hid (H3.out.trans (hb4.mono H3.out.size))
  have Hm4 : Hid (OwnI W.heap.size w4 (.slice a23 (c.v.length + d.n.length) c23) (c.v ++ d.n)) := own_below Hm3.out hb4
  clear hb4 c0 c1 c2
  cases q2 with
  | false =>
    have HT : Hid (∀ w', w4.grownBy w' g → Below W.heap.size W w') := fun w' h => H4.out.trans (below_own Hm4.out (by rw [hgm]; exact h) (Nat.le_refl _) H4.out.size)
    have HP2 : Hid (∀ w', w4.grownBy w' g → post (.returned (.bool true)) w') := fun w' h => HP.out w' (HT.out _ h)
    have HE2 : Hid (∀ w', w4.grownBy w' g → w'.heap[E]? = some (.cells #[ea, eb, ed] 25 (0, 0)) ∧ Config3 w' ea eb ed d) := fun w' h => HE.out w' (HT.out _ h)
    have HO2 : Hid (∀ w', w4.grownBy w' g → ops ≠ [] → ∃ b off, ao = some ⟨b, off, none⟩ ∧ ∀ j o, ops[j]? = some o → w'.cell? ⟨b, off + j * 2, none⟩ = some (.int .i64 o.kind) ∧ w'.cell? ⟨b, off + j * 2 + 1, none⟩ = some (.int .i64 o.node)) := fun w' h => HO.out w' (HT.out _ h)
    have HA2 : Hid (∀ w', w4.grownBy w' g → Ints w' va pa) := fun w' h => HA.out w' (HT.out _ h)
    have HB2 : Hid (∀ w', w4.grownBy w' g → Ints w' vb pb) := fun w' h => HB.out w' (HT.out _ h)
    go_upto_if 155 with (fail)
    iterate 12 (first | done | exact meets_fin w4 post W.heap.size g (.slice a23 (c.v.length + d.n.length) c23) (c.v ++ d.n) Hm4 hgm H4.out.size hml HP2 E ea eb ed d HE2 hd hlast ops ao co HO2 va vb pa pb HA2 HB2 hol Hw Hmeet2 | go_step)
  | true =>
  have HM := keep_meet va vb (.slice a23 (c.v.length + d.n.length) c23) pa pb (c.v ++ d.n) w4 (HA.out _ H4.out) (HB.out _ H4.out) (Ints.of_own Hm4.out)
  rw [Hmeet1 hq1.out hq2.out] at HM
  have HM := Lib.hid HM
  go_wp2_with fail
  refine HM.out.mono ?_
  rintro e w5 ⟨rfl, rfl⟩
  have HT : Hid (∀ w', w4.grownBy w' g → Below W.heap.size W w') := fun w' h => H4.out.trans (below_own Hm4.out (by rw [hgm]; exact h) (Nat.le_refl _) H4.out.size)
  have HP2 : Hid (∀ w', w4.grownBy w' g → post (.returned (.bool true)) w') := fun w' h => HP.out w' (HT.out _ h)
  have HE2 : Hid (∀ w', w4.grownBy w' g → w'.heap[E]? = some (.cells #[ea, eb, ed] 25 (0, 0)) ∧ Config3 w' ea eb ed d) := fun w' h => HE.out w' (HT.out _ h)
  have HO2 : Hid (∀ w', w4.grownBy w' g → ops ≠ [] → ∃ b off, ao = some ⟨b, off, none⟩ ∧ ∀ j o, ops[j]? = some o → w'.cell? ⟨b, off + j * 2, none⟩ = some (.int .i64 o.kind) ∧ w'.cell? ⟨b, off + j * 2 + 1, none⟩ = some (.int .i64 o.node)) := fun w' h => HO.out w' (HT.out _ h)
  have HA2 : Hid (∀ w', w4.grownBy w' g → Ints w' va pa) := fun w' h => HA.out w' (HT.out _ h)
  have HB2 : Hid (∀ w', w4.grownBy w' g → Ints w' vb pb) := fun w' h => HB.out w' (HT.out _ h)
  go_upto_if 155 with (fail)
  iterate 12 (first | done | exact meets_fin w4 post W.heap.size g (.slice a23 (c.v.length + d.n.length) c23) (c.v ++ d.n) Hm4 hgm H4.out.size hml HP2 E ea eb ed d HE2 hd hlast ops ao co HO2 va vb pa pb HA2 HB2 hol Hw Hmeet2 | go_step)
end Go.Proofs.Ytgdmcbjlfnjhjaa
