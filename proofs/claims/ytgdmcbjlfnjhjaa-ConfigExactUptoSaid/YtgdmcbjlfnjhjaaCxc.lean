/-
  ConfigExact: the law: all members, Finish, Begin.
-/
import Derived.Test.YtgdmcbjlfnjhjaaCxb
import Derived.Test.YtgdmcbjlfnjhjaaBgp
import Derived.Test.YtgdmcbjlfnjhjaaCrh
import Derived.Test.YtgdmcbjlfnjhjaaCj
import Derived.Deep.DeepCutAuto
import Derived.Deep.CutRange
namespace Go.Proofs.Ytgdmcbjlfnjhjaa
open Go.RowKit Wm Mm
set_option linter.unusedVariables false
set_option linter.unusedSimpArgs false

set_option maxHeartbeats 4000000 in
set_option maxRecDepth 100000 in
theorem exact_members {v0 v1 v4 v5 v6 v9 v10 v11 v14 v20 v23 v24 v25 v26 v27 v28 v29 v30 v31 v32 v33 v34 v35 v36 v37 v38 v39 v40 v41 v42 v43 v44 v45 v46 v47 v48 v49 v50 v51 v52 v53 v54 v55 v56 v57 v58 v59 v60 v61 v62 v63 v64 v65 v66 v67 v68 v69 v70 v71 v72 v73 v74 v75 v76 v77 v78 v79 v80 v81 v82 v83 v84 v85 v86 v87 v88 v89 v90 v91 v92 v93 v94 v95 v96 v97 v98 v99 v100 v101 v102 v103 v104 v105 v106 v107 v108 v109 v110 v111 v112 v113 v114 v115 v116 v117 v118 v119 v120 v121 v122 v123 v124 v125 v126 v127 v128 v129 v130 v131 v132 v133 v134 v135 v136 v137 v138 v139 v140 v141 v142 v143 v144 v145 v146 v147 v148 v149 v150 v151 v152 v153 v154 v155 v156 v157 v158 v159 v160 v161 v162 v163 v164 v165 v166 v167 v168 v169 v170 v171 v172 v173 v174 v175 v176 v177 v178 v179 v180 v181 v182 v183 v184 v185 v186 v187 v188 v189 v190 : Value} (B D S : Nat) (F : Nat → Prop) (a0 b0 d0 xa xb xd ov av hx hav : Value) (c : Conf) (ops : List OpP) (hv : List Int) (hc1 : c.v.length ≤ 1048576) (hc2 : c.n.length ≤ 1048576) (hc3 : c.l.length ≤ 1048576) (hvl : hv.length ≤ 1048576) (hol : ops.length ≤ 1048576)
    (S1 : Nat) (W : World) (hS1 : S1 ≤ W.heap.size) (post : Ending → World → Prop) (HP : Hid (∀ w', Below S1 W w' → post (.returned (.bool true)) w')) (HX : Hid (∀ w', Below S1 W w' → Cfx B D S F a0 b0 d0 xa xb xd ov av hx hav c ops hv w'))
    (E G : Nat) (ea eb ed ga gb gd : Value) (hE : Hid (W.heap[E]? = some (.cells #[ea, eb, ed] 25 (0, 0)))) (hG : Hid (W.heap[G]? = some (.cells #[ga, gb, gd] 25 (0, 0))))
    (WE : Hid (WI S1 W ea ∧ WI S1 W eb ∧ WI S1 W ed)) (WG : Hid (WI S1 W ga ∧ WI S1 W gb ∧ WI S1 W gd))
    (NE6 : Hid (∀ v, v = ea ∨ v = eb ∨ v = ed ∨ v = ga ∨ v = gb ∨ v = gd → ∀ p n c, v = Value.slice p n c → n ≤ 1099511627776)) (e1 e2 : Int) :
    Code.wp Try.prog ((Try.f6.body.bind (seqAt 14)).getD .skip) (bodyPost Try.prog Try.f6 post) ⟨#[v0, v1, hav, .pointer (some ⟨B, 0, none⟩), v4, v5, v6, .pointer (some ⟨D, 0, none⟩), hx, v9, v10, v11, .pointer (some ⟨E, 0, none⟩), .int .i64 e1, v14, .int .i64 e1, .bool true, .bool true, .pointer (some ⟨G, 0, none⟩), .int .i64 e2, v20, .int .i64 e2, .bool true, v23, v24, v25, v26, v27, v28, v29, v30, v31, v32, v33, v34, v35, v36, v37, v38, v39, v40, v41, v42, v43, v44, v45, v46, v47, v48, v49, v50, v51, v52, v53, v54, v55, v56, v57, v58, v59, v60, v61, v62, v63, v64, v65, v66, v67, v68, v69, v70, v71, v72, v73, v74, v75, v76, v77, v78, v79, v80, v81, v82, v83, v84, v85, v86, v87, v88, v89, v90, v91, v92, v93, v94, v95, v96, v97, v98, v99, v100, v101, v102, v103, v104, v105, v106, v107, v108, v109, v110, v111, v112, v113, v114, v115, v116, v117, v118, v119, v120, v121, v122, v123, v124, v125, v126, v127, v128, v129, v130, v131, v132, v133, v134, v135, v136, v137, v138, v139, v140, v141, v142, v143, v144, v145, v146, v147, v148, v149, v150, v151, v152, v153, v154, v155, v156, v157, v158, v159, v160, v161, v162, v163, v164, v165, v166, v167, v168, v169, v170, v171, v172, v173, v174, v175, v176, v177, v178, v179, v180, v181, v182, v183, v184, v185, v186, v187, v188, v189, v190], []⟩ W := by
  conv => arg 2; whnf
  have H0 : Hid (Below W.heap.size W W) := Below.refl _ _
  have H0s : Hid (Below S1 W W) := Below.refl _ _
  have q0 : W.cell? ⟨D, 0, none⟩ = some xa := cell_n (HX.out _ H0s.out).d 0 rfl
  have q1 : W.cell? ⟨D, 1, none⟩ = some xb := cell_n (HX.out _ H0s.out).d 1 rfl
  have q2 : W.cell? ⟨D, 2, none⟩ = some xd := cell_n (HX.out _ H0s.out).d 2 rfl
  have K := Lib.hid (members_law xa xb xd c W (HX.out _ H0s.out).cd.conf hc1 hc2 hc3)
  have hul := unionP_len (c.v ++ (c.n ++ c.l))
  have Hal : Hid (validB c = true → nineP (fun k => hasB c.v k || (hasB c.n k || hasB c.l k)) = unionP (c.v ++ (c.n ++ c.l))) := nineP_all
  obtain ⟨m, hm⟩ := hide (unionP (c.v ++ (c.n ++ c.l)))
  rw [hm.out] at K hul Hal
  have Hml : Hid (m.length ≤ 3145728) := by show _ ≤ _; simp only [List.length_append] at hul; omega
  clear hul
  go_wp2_with fail
  refine K.out.mono ?_
  rintro e w1 ⟨mv, rfl, hom, hb⟩
  obtain ⟨am, cm, rfl⟩ := owns_slice hom
  have H1 : Hid (Below W.heap.size W w1) := hb
  have WM1 : Hid (WI S1 w1 (.slice am m.length cm)) := (WI.of_own hom).base hS1
  have Hi1 := Lib.hid (Ints.of_own hom)
  have H1s : Hid (Below S1 W w1) := hb.mono hS1
  clear hb hom q0 q1 q2 K
  have p0 : w1.cell? ⟨B, 0, none⟩ = some a0 := cell_n (HX.out _ H1s.out).b 0 rfl
  have p1 : w1.cell? ⟨B, 1, none⟩ = some b0 := cell_n (HX.out _ H1s.out).b 1 rfl
  have p2 : w1.cell? ⟨B, 2, none⟩ = some d0 := cell_n (HX.out _ H1s.out).b 2 rfl
  have K := Lib.hid (refMembers_law a0 b0 d0 c w1 (HX.out _ H1s.out).cb)
  obtain ⟨m2, hm2⟩ := hide (nineP (fun k => hasB c.v k || (hasB c.n k || hasB c.l k)))
  rw [hm2.out] at K Hal
  go_wp2_with fail
  refine K.out.mono ?_
  rintro e w2 ⟨rv, rfl, hor, hb⟩
  obtain ⟨ar, cr, rfl⟩ := owns_slice hor
  have H2 := Lib.hid (H1.out.trans (hb.mono H1.out.size))
  have WM2 : Hid (WI S1 w2 (.slice am m.length cm)) := WM1.out.keep (KeepSz.below hb)
  have KS := Lib.hid (ref_sameInts _ _ m m2 w2 (Hi1.out.mono hb) (Ints.of_own hor))
  obtain ⟨z3, hz⟩ := hide (decide (m = m2))
  rw [hz.out] at KS
  have hz3 : validB c = true → z3 = true := fun h => by rw [← hz.out]; exact decide_eq_true (Hal.out h).symm
  clear hb hor p0 p1 p2 K
  go_wp2_with fail
  refine KS.out.mono ?_
  rintro e w3 ⟨rfl, hb⟩
  have H3 := Lib.hid (H2.out.trans (hb.mono H2.out.size))
  have WM' : Hid (WI S1 w3 (.slice am m.length cm)) := WM2.out.keep (KeepSz.below hb)
  clear hb
  have hS1' : S1 ≤ w3.heap.size := Nat.le_trans hS1 H3.out.size
  have HP' : Hid (∀ w', Below S1 w3 w' → post (.returned (.bool true)) w') := fun w' h => HP.out w' ((H3.out.mono hS1).trans h)
  have HX' : Hid (∀ w', Below S1 w3 w' → Cfx B D S F a0 b0 d0 xa xb xd ov av hx hav c ops hv w') := fun w' h => HX.out w' ((H3.out.mono hS1).trans h)
  have hE' : Hid (w3.heap[E]? = some (.cells #[ea, eb, ed] 25 (0, 0))) := (H3.out.block E (lt_of_block hE.out)).trans hE.out
  have hG' : Hid (w3.heap[G]? = some (.cells #[ga, gb, gd] 25 (0, 0))) := (H3.out.block G (lt_of_block hG.out)).trans hG.out
  have WE' : Hid (WI S1 w3 ea ∧ WI S1 w3 eb ∧ WI S1 w3 ed) := ⟨WE.out.1.keep (KeepSz.below H3.out), WE.out.2.1.keep (KeepSz.below H3.out), WE.out.2.2.keep (KeepSz.below H3.out)⟩
  have WG' : Hid (WI S1 w3 ga ∧ WI S1 w3 gb ∧ WI S1 w3 gd) := ⟨WG.out.1.keep (KeepSz.below H3.out), WG.out.2.1.keep (KeepSz.below H3.out), WG.out.2.2.keep (KeepSz.below H3.out)⟩
  have NE : Hid (∀ v, v = ea ∨ v = eb ∨ v = ed ∨ v = ga ∨ v = gb ∨ v = gd ∨ v = .slice am m.length cm → ∀ p n c, v = Value.slice p n c → n ≤ 1099511627776) := by
    show ∀ v, _ → _
    intro v h p n c he
    rcases h with h | h | h | h | h | h | h
    · exact NE6.out v (Or.inl h) p n c he
    · exact NE6.out v (Or.inr (Or.inl h)) p n c he
    · exact NE6.out v (Or.inr (Or.inr (Or.inl h))) p n c he
    · exact NE6.out v (Or.inr (Or.inr (Or.inr (Or.inl h)))) p n c he
    · exact NE6.out v (Or.inr (Or.inr (Or.inr (Or.inr (Or.inl h))))) p n c he
    · exact NE6.out v (Or.inr (Or.inr (Or.inr (Or.inr (Or.inr h))))) p n c he
    · rw [h] at he
      injection he with e1 e2 e3
      have := Hml.out
      omega
  try dsimp only
  iterate 12 (first | done | exact exact_same B D S F a0 b0 d0 xa xb xd ov av hx hav c ops hv hc1 hc2 hc3 hvl hol S1 w3 hS1' post HP' HX' E G ea eb ed ga gb gd (.slice am m.length cm) hE' hG' WE' WG' WM' NE e1 e2 z3 hz3 | go_step)
set_option maxHeartbeats 4000000 in
set_option maxRecDepth 100000 in
theorem exact_finish {v0 v1 v4 v5 v6 v9 v10 v11 v14 v18 v19 v20 v21 v22 v23 v24 v25 v26 v27 v28 v29 v30 v31 v32 v33 v34 v35 v36 v37 v38 v39 v40 v41 v42 v43 v44 v45 v46 v47 v48 v49 v50 v51 v52 v53 v54 v55 v56 v57 v58 v59 v60 v61 v62 v63 v64 v65 v66 v67 v68 v69 v70 v71 v72 v73 v74 v75 v76 v77 v78 v79 v80 v81 v82 v83 v84 v85 v86 v87 v88 v89 v90 v91 v92 v93 v94 v95 v96 v97 v98 v99 v100 v101 v102 v103 v104 v105 v106 v107 v108 v109 v110 v111 v112 v113 v114 v115 v116 v117 v118 v119 v120 v121 v122 v123 v124 v125 v126 v127 v128 v129 v130 v131 v132 v133 v134 v135 v136 v137 v138 v139 v140 v141 v142 v143 v144 v145 v146 v147 v148 v149 v150 v151 v152 v153 v154 v155 v156 v157 v158 v159 v160 v161 v162 v163 v164 v165 v166 v167 v168 v169 v170 v171 v172 v173 v174 v175 v176 v177 v178 v179 v180 v181 v182 v183 v184 v185 v186 v187 v188 v189 v190 : Value} (B D S : Nat) (F : Nat → Prop) (a0 b0 d0 xa xb xd ov av hx hav : Value) (c : Conf) (ops : List OpP) (hv : List Int) (hc1 : c.v.length ≤ 1048576) (hc2 : c.n.length ≤ 1048576) (hc3 : c.l.length ≤ 1048576) (hvl : hv.length ≤ 1048576) (hol : ops.length ≤ 1048576)
    (S1 : Nat) (W : World) (hS1 : S1 ≤ W.heap.size) (post : Ending → World → Prop) (HP : Hid (∀ w', Below S1 W w' → post (.returned (.bool true)) w')) (HX : Hid (∀ w', Below S1 W w' → Cfx B D S F a0 b0 d0 xa xb xd ov av hx hav c ops hv w'))
    (E : Nat) (ea eb ed : Value) (hE : Hid (W.heap[E]? = some (.cells #[ea, eb, ed] 25 (0, 0)))) (WE : Hid (WI S1 W ea ∧ WI S1 W eb ∧ WI S1 W ed))
    (NE3 : Hid (∀ v, v = ea ∨ v = eb ∨ v = ed → ∀ p n c, v = Value.slice p n c → n ≤ 1099511627776)) (e1 : Int) :
    Code.wp Try.prog ((Try.f6.body.bind (seqAt 11)).getD .skip) (bodyPost Try.prog Try.f6 post) ⟨#[v0, v1, hav, .pointer (some ⟨B, 0, none⟩), v4, v5, v6, .pointer (some ⟨D, 0, none⟩), hx, v9, v10, v11, .pointer (some ⟨E, 0, none⟩), .int .i64 e1, v14, .int .i64 e1, .bool true, .bool true, v18, v19, v20, v21, v22, v23, v24, v25, v26, v27, v28, v29, v30, v31, v32, v33, v34, v35, v36, v37, v38, v39, v40, v41, v42, v43, v44, v45, v46, v47, v48, v49, v50, v51, v52, v53, v54, v55, v56, v57, v58, v59, v60, v61, v62, v63, v64, v65, v66, v67, v68, v69, v70, v71, v72, v73, v74, v75, v76, v77, v78, v79, v80, v81, v82, v83, v84, v85, v86, v87, v88, v89, v90, v91, v92, v93, v94, v95, v96, v97, v98, v99, v100, v101, v102, v103, v104, v105, v106, v107, v108, v109, v110, v111, v112, v113, v114, v115, v116, v117, v118, v119, v120, v121, v122, v123, v124, v125, v126, v127, v128, v129, v130, v131, v132, v133, v134, v135, v136, v137, v138, v139, v140, v141, v142, v143, v144, v145, v146, v147, v148, v149, v150, v151, v152, v153, v154, v155, v156, v157, v158, v159, v160, v161, v162, v163, v164, v165, v166, v167, v168, v169, v170, v171, v172, v173, v174, v175, v176, v177, v178, v179, v180, v181, v182, v183, v184, v185, v186, v187, v188, v189, v190], []⟩ W := by
  conv => arg 2; whnf
  have H0s : Hid (Below S1 W W) := Below.refl _ _
  have q0 : W.cell? ⟨D, 0, none⟩ = some xa := cell_n (HX.out _ H0s.out).d 0 rfl
  have q1 : W.cell? ⟨D, 1, none⟩ = some xb := cell_n (HX.out _ H0s.out).d 1 rfl
  have q2 : W.cell? ⟨D, 2, none⟩ = some xd := cell_n (HX.out _ H0s.out).d 2 rfl
  have K := Lib.hid (finish_own xa xb xd c W (HX.out _ H0s.out).cd.conf (by omega) (by omega))
  have K9 : Hid (∀ w', Cfx B D S F a0 b0 d0 xa xb xd ov av hx hav c ops hv w' → Calls Try.prog 48 #[.agg #[a0, b0, d0]] w' (GotR w' (finishP c))) := fun w' h => refFinish_law a0 b0 d0 c w' h.cb
  have Hlen : Hid (∀ x, x = (finishP c).2.v ∨ x = (finishP c).2.n ∨ x = (finishP c).2.l → x.length ≤ 1048576) := by
    show ∀ x, _ → _
    intro x hx
    have key : (finishP c).2 = noC ∨ (finishP c).2 = ⟨c.n, [], c.l⟩ := by unfold finishP; split <;> simp
    rcases key with e | e <;> rw [e] at hx <;> rcases hx with rfl | rfl | rfl <;> simp <;> omega
  obtain ⟨r, hr⟩ := hide (finishP c)
  rw [hr.out] at K K9 Hlen
  obtain ⟨e2, g⟩ := r
  go_wp2_with fail
  refine K.out.mono ?_
  rintro e w1 ⟨ga, gb, gd, rfl, hcf, hb⟩
  have hcf : Config3O W.heap.size w1 ga gb gd g := hcf
  obtain ⟨gx, gm, rfl⟩ : ∃ p k, ga = .slice p g.v.length k := hcf.v.len
  obtain ⟨gy, gn, rfl⟩ : ∃ p k, gb = .slice p g.n.length k := hcf.n.len
  obtain ⟨gz, go, rfl⟩ : ∃ p k, gd = .slice p g.l.length k := hcf.l.len
  have H1 : Hid (Below W.heap.size W w1) := hb
  have WG1 : Hid (WI S1 w1 (.slice gx g.v.length gm) ∧ WI S1 w1 (.slice gy g.n.length gn) ∧ WI S1 w1 (.slice gz g.l.length go)) := ⟨(WI.of_own hcf.v).base hS1, (WI.of_own hcf.n).base hS1, (WI.of_own hcf.l).base hS1⟩
  have Hg1 : Hid (Config3 w1 (.slice gx g.v.length gm) (.slice gy g.n.length gn) (.slice gz g.l.length go) g) := hcf.conf
  have ba : Below w1.heap.size w1 (w1.alloc (.cells #[(.slice gx g.v.length gm), (.slice gy g.n.length gn), (.slice gz g.l.length go)] 25)) := (Below.refl _ _).alloc (Nat.le_refl _) _
  have hxa : (w1.alloc (.cells #[(.slice gx g.v.length gm), (.slice gy g.n.length gn), (.slice gz g.l.length go)] 25)).heap[w1.heap.size]? = some (.cells #[(.slice gx g.v.length gm), (.slice gy g.n.length gn), (.slice gz g.l.length go)] 25 (0, 0)) := hp_at _ _ rfl
  obtain ⟨V1, hV1⟩ := hide (w1.alloc (.cells #[(.slice gx g.v.length gm), (.slice gy g.n.length gn), (.slice gz g.l.length go)] 25))
  rw [hV1.out] at ba hxa
  obtain ⟨G, hGG⟩ := hide w1.heap.size
  rw [hGG.out] at hxa
  have HV : Hid (Below W.heap.size W V1) := H1.out.trans (ba.mono H1.out.size)
  have WG2 : Hid (WI S1 V1 (.slice gx g.v.length gm) ∧ WI S1 V1 (.slice gy g.n.length gn) ∧ WI S1 V1 (.slice gz g.l.length go)) := by
    have kk : KeepSz w1 V1 := KeepSz.below ba
    exact ⟨WG1.out.1.keep kk, WG1.out.2.1.keep kk, WG1.out.2.2.keep kk⟩
  have Hg2 : Hid (Config3 V1 (.slice gx g.v.length gm) (.slice gy g.n.length gn) (.slice gz g.l.length go) g) := Hg1.out.mono ba
  have Hxa := Lib.hid hxa
  have HVs : Hid (Below S1 W V1) := HV.out.mono hS1
  clear hb hcf ba hxa q0 q1 q2 K
  try dsimp only
  go_upto_region 12 with fail
  rw [hV1.out, hGG.out]
  have p0 : V1.cell? ⟨B, 0, none⟩ = some a0 := cell_n (HX.out _ HVs.out).b 0 rfl
  have p1 : V1.cell? ⟨B, 1, none⟩ = some b0 := cell_n (HX.out _ HVs.out).b 1 rfl
  have p2 : V1.cell? ⟨B, 2, none⟩ = some d0 := cell_n (HX.out _ HVs.out).b 2 rfl
  go_wp2_with fail
  refine (K9.out _ (HX.out _ HVs.out)).mono ?_
  rintro e w2 ⟨ra, rb, rd, rfl, hcr, hb⟩
  have hcr : Config3 w2 ra rb rd g := hcr
  obtain ⟨rx, rm, rfl, _⟩ := len_of_Ints hcr.v
  obtain ⟨ry, rn, rfl, _⟩ := len_of_Ints hcr.n
  obtain ⟨rz, ro, rfl, _⟩ := len_of_Ints hcr.l
  have H2 := Lib.hid (HV.out.trans (hb.mono HV.out.size))
  have Hg3 := Lib.hid (Hg2.out.mono hb)
  have hG2 : Hid (w2.heap[G]? = some (.cells #[(.slice gx g.v.length gm), (.slice gy g.n.length gn), (.slice gz g.l.length go)] 25 (0, 0))) := (hb.block G (lt_of_block Hxa.out)).trans Hxa.out
  have WG3 : Hid (WI S1 w2 (.slice gx g.v.length gm) ∧ WI S1 w2 (.slice gy g.n.length gn) ∧ WI S1 w2 (.slice gz g.l.length go)) := ⟨WG2.out.1.keep (KeepSz.below hb), WG2.out.2.1.keep (KeepSz.below hb), WG2.out.2.2.keep (KeepSz.below hb)⟩
  have ba : Below w2.heap.size w2 (w2.alloc (.cells #[(.slice rx g.v.length rm), (.slice ry g.n.length rn), (.slice rz g.l.length ro)] 25)) := (Below.refl _ _).alloc (Nat.le_refl _) _
  have hxr : (w2.alloc (.cells #[(.slice rx g.v.length rm), (.slice ry g.n.length rn), (.slice rz g.l.length ro)] 25)).heap[w2.heap.size]? = some (.cells #[(.slice rx g.v.length rm), (.slice ry g.n.length rn), (.slice rz g.l.length ro)] 25 (0, 0)) := hp_at _ _ rfl
  obtain ⟨V2, hV2⟩ := hide (w2.alloc (.cells #[(.slice rx g.v.length rm), (.slice ry g.n.length rn), (.slice rz g.l.length ro)] 25))
  rw [hV2.out] at ba hxr
  have H3 : Hid (Below W.heap.size W V2) := H2.out.trans (ba.mono H2.out.size)
  have hG3 : Hid (V2.heap[G]? = some (.cells #[(.slice gx g.v.length gm), (.slice gy g.n.length gn), (.slice gz g.l.length go)] 25 (0, 0))) := (ba.block G (lt_of_block hG2.out)).trans hG2.out
  have WG4 : Hid (WI S1 V2 (.slice gx g.v.length gm) ∧ WI S1 V2 (.slice gy g.n.length gn) ∧ WI S1 V2 (.slice gz g.l.length go)) := ⟨WG3.out.1.keep (KeepSz.below ba), WG3.out.2.1.keep (KeepSz.below ba), WG3.out.2.2.keep (KeepSz.below ba)⟩
  have KS := ref_sameConfig (.slice gx g.v.length gm) (.slice gy g.n.length gn) (.slice gz g.l.length go) (.slice rx g.v.length rm) (.slice ry g.n.length rn) (.slice rz g.l.length ro) g g V2 (Hg3.out.mono ba) (hcr.mono ba)
  rw [show sameConf g g = true from by simp [sameConf]] at KS
  have KS := Lib.hid KS
  obtain ⟨R, hRR⟩ := hide w2.heap.size
  rw [hRR.out] at hxr
  have s0 : V2.cell? ⟨G, 0, none⟩ = some (.slice gx g.v.length gm) := cell_n hG3.out 0 rfl
  have s1 : V2.cell? ⟨G, 1, none⟩ = some (.slice gy g.n.length gn) := cell_n hG3.out 1 rfl
  have s2 : V2.cell? ⟨G, 2, none⟩ = some (.slice gz g.l.length go) := cell_n hG3.out 2 rfl
  have t0 : V2.cell? ⟨R, 0, none⟩ = some (.slice rx g.v.length rm) := cell_n hxr 0 rfl
  have t1 : V2.cell? ⟨R, 1, none⟩ = some (.slice ry g.n.length rn) := cell_n hxr 1 rfl
  have t2 : V2.cell? ⟨R, 2, none⟩ = some (.slice rz g.l.length ro) := cell_n hxr 2 rfl
  clear hb hcr ba hxr p0 p1 p2
  try dsimp only
  go_upto_region 13 with fail
  rw [hV2.out, hRR.out]
  go_wp2_with fail
  refine KS.out.mono ?_
  rintro e w3 ⟨rfl, hb⟩
  have H4 := Lib.hid (H3.out.trans (hb.mono H3.out.size))
  have hG4 : Hid (w3.heap[G]? = some (.cells #[(.slice gx g.v.length gm), (.slice gy g.n.length gn), (.slice gz g.l.length go)] 25 (0, 0))) := (hb.block G (lt_of_block hG3.out)).trans hG3.out
  have WG5 : Hid (WI S1 w3 (.slice gx g.v.length gm) ∧ WI S1 w3 (.slice gy g.n.length gn) ∧ WI S1 w3 (.slice gz g.l.length go)) := ⟨WG4.out.1.keep (KeepSz.below hb), WG4.out.2.1.keep (KeepSz.below hb), WG4.out.2.2.keep (KeepSz.below hb)⟩
  clear hb s0 s1 s2 t0 t1 t2
  have hS1' : S1 ≤ w3.heap.size := Nat.le_trans hS1 H4.out.size
  have HP' : Hid (∀ w', Below S1 w3 w' → post (.returned (.bool true)) w') := fun w' h => HP.out w' ((H4.out.mono hS1).trans h)
  have HX' : Hid (∀ w', Below S1 w3 w' → Cfx B D S F a0 b0 d0 xa xb xd ov av hx hav c ops hv w') := fun w' h => HX.out w' ((H4.out.mono hS1).trans h)
  have hE' : Hid (w3.heap[E]? = some (.cells #[ea, eb, ed] 25 (0, 0))) := (H4.out.block E (lt_of_block hE.out)).trans hE.out
  have WE' : Hid (WI S1 w3 ea ∧ WI S1 w3 eb ∧ WI S1 w3 ed) := ⟨WE.out.1.keep (KeepSz.below H4.out), WE.out.2.1.keep (KeepSz.below H4.out), WE.out.2.2.keep (KeepSz.below H4.out)⟩
  have NE6 : Hid (∀ v, v = ea ∨ v = eb ∨ v = ed ∨ v = (.slice gx g.v.length gm) ∨ v = (.slice gy g.n.length gn) ∨ v = (.slice gz g.l.length go) → ∀ p n c, v = Value.slice p n c → n ≤ 1099511627776) := by
    show ∀ v, _ → _
    intro v h p n c he
    rcases h with h | h | h | h | h | h
    · exact NE3.out v (Or.inl h) p n c he
    · exact NE3.out v (Or.inr (Or.inl h)) p n c he
    · exact NE3.out v (Or.inr (Or.inr h)) p n c he
    · rw [h] at he
      injection he with e1 e2 e3
      have := (Hlen.out _ (Or.inl rfl) : g.v.length ≤ 1048576)
      omega
    · rw [h] at he
      injection he with e1 e2 e3
      have := (Hlen.out _ (Or.inr (Or.inl rfl)) : g.n.length ≤ 1048576)
      omega
    · rw [h] at he
      injection he with e1 e2 e3
      have := (Hlen.out _ (Or.inr (Or.inr rfl)) : g.l.length ≤ 1048576)
      omega
  try dsimp only
  iterate 12 (first | done | exact exact_members B D S F a0 b0 d0 xa xb xd ov av hx hav c ops hv hc1 hc2 hc3 hvl hol S1 w3 hS1' post HP' HX' E G ea eb ed (.slice gx g.v.length gm) (.slice gy g.n.length gn) (.slice gz g.l.length go) hE' hG4 WE' WG5 NE6 e1 e2 | go_step)
end Go.Proofs.Ytgdmcbjlfnjhjaa
