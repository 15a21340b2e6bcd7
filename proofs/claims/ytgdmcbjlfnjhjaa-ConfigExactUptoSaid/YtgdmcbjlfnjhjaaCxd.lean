/-
  ConfigExact: the law: Begin; the whole walk.
-/
import Derived.Test.YtgdmcbjlfnjhjaaCxc
import Derived.Deep.DeepCutAuto
import Derived.Deep.CutRange
namespace Go.Proofs.Ytgdmcbjlfnjhjaa
open Go.RowKit Wm Mm
set_option linter.unusedVariables false
set_option linter.unusedSimpArgs false

theorem HeldO.opsW {S : Nat} {w : World} {v : Value} {l : List OpP} (h : HeldO S w v l) : OpsW w v l := by
  obtain ⟨a, c, rfl, ho⟩ := id h
  obtain ⟨g, rfl, _, hc, _, hcs⟩ := h.cells
  have hm : l.length ≤ maxLen := by
    rcases ho.2 with ⟨_, h0⟩ | ⟨g', cap, cur, he, _, _, h1, h2, _⟩
    · omega
    · omega
  refine ⟨_, _, rfl, fun _ => ⟨g, 0, rfl, fun j o hj => ?_⟩, hm⟩
  obtain ⟨hjl, rfl⟩ := List.getElem?_eq_some_iff.1 hj
  rw [Nat.zero_add]
  exact hcs j hjl
theorem opsR_sl {F : Nat → Prop} {w : World} {v : Value} {l : List OpP} (h : Sl 2 (Plain rowQ) F w v l) : OpsR w v l := by
  obtain ⟨ao, cap, rfl, hcap, hmax⟩ := h.slice
  refine ⟨ao, cap, rfl, fun hne => ?_, hmax⟩
  have h0 : 0 < l.length := List.length_pos_iff.2 hne
  obtain ⟨b, off, us, rfl, _, _, _, _⟩ := h.at h0
  refine ⟨b, off, rfl, fun j o hj => ?_⟩
  obtain ⟨hjl, rfl⟩ := List.getElem?_eq_some_iff.1 hj
  obtain ⟨b', off', us, he, _, _, hus, hcs⟩ := h.at hjl
  injection he with he
  injection he with e1 e2
  subst e1; subst e2
  have hus' : us = rowQ l[j] := hus
  subst hus'
  exact ⟨by have := hcs 0 _ rfl; rwa [Nat.add_zero] at this, hcs 1 _ rfl⟩
theorem beginP_small (c : Conf) (ops : List OpP) : validB (beginP c ops).2 = true ∨ (beginP c ops).2 = noC := by
  rcases h : beginP c ops with ⟨e, d⟩
  by_cases h0 : e = 0
  · subst h0; exact Or.inl (beginP_ok h).2.2.1
  · right
    unfold beginP at h
    split at h
    · cases h; rfl
    · split at h
      · cases h; rfl
      · split at h
        · cases h; rfl
        · split at h
          · cases h; rfl
          · split at h
            · cases h; rfl
            · split at h <;> (cases h; exact absurd rfl h0)
theorem beginP_lens (c : Conf) (ops : List OpP) : ∀ x, x = (beginP c ops).2.v ∨ x = (beginP c ops).2.n ∨ x = (beginP c ops).2.l → x.length ≤ 1048576 := by
  intro x hx
  rcases beginP_small c ops with h | h
  · obtain ⟨_, h2, h3, h4, _⟩ := validB_iff.1 h
    have := rising_lenR h2
    have := rising_lenR h3
    have := rising_lenR h4
    rcases hx with rfl | rfl | rfl <;> omega
  · rw [h] at hx
    rcases hx with rfl | rfl | rfl <;> simp
set_option maxHeartbeats 4000000 in
set_option maxRecDepth 100000 in
theorem exact_begin {v0 v4 v5 v6 v9 v10 v12 v13 v14 v15 v16 v17 v18 v19 v20 v21 v22 v23 v24 v25 v26 v27 v28 v29 v30 v31 v32 v33 v34 v35 v36 v37 v38 v39 v40 v41 v42 v43 v44 v45 v46 v47 v48 v49 v50 v51 v52 v53 v54 v55 v56 v57 v58 v59 v60 v61 v62 v63 v64 v65 v66 v67 v68 v69 v70 v71 v72 v73 v74 v75 v76 v77 v78 v79 v80 v81 v82 v83 v84 v85 v86 v87 v88 v89 v90 v91 v92 v93 v94 v95 v96 v97 v98 v99 v100 v101 v102 v103 v104 v105 v106 v107 v108 v109 v110 v111 v112 v113 v114 v115 v116 v117 v118 v119 v120 v121 v122 v123 v124 v125 v126 v127 v128 v129 v130 v131 v132 v133 v134 v135 v136 v137 v138 v139 v140 v141 v142 v143 v144 v145 v146 v147 v148 v149 v150 v151 v152 v153 v154 v155 v156 v157 v158 v159 v160 v161 v162 v163 v164 v165 v166 v167 v168 v169 v170 v171 v172 v173 v174 v175 v176 v177 v178 v179 v180 v181 v182 v183 v184 v185 v186 v187 v188 v189 v190 : Value} (B D S : Nat) (F : Nat → Prop) (a0 b0 d0 xa xb xd ov av hx hav : Value) (c : Conf) (ops : List OpP) (hv : List Int) (hc1 : c.v.length ≤ 1048576) (hc2 : c.n.length ≤ 1048576) (hc3 : c.l.length ≤ 1048576) (hvl : hv.length ≤ 1048576) (hol : ops.length ≤ 1048576)
    (S1 : Nat) (W : World) (hS1 : S1 ≤ W.heap.size) (post : Ending → World → Prop) (HP : Hid (∀ w', Below S1 W w' → post (.returned (.bool true)) w')) (HX : Hid (∀ w', Below S1 W w' → Cfx B D S F a0 b0 d0 xa xb xd ov av hx hav c ops hv w')) :
    Code.wp Try.prog ((Try.f6.body.bind (seqAt 7)).getD .skip) (bodyPost Try.prog Try.f6 post) ⟨#[v0, av, hav, .pointer (some ⟨B, 0, none⟩), v4, v5, v6, .pointer (some ⟨D, 0, none⟩), hx, v9, v10, ov, v12, v13, v14, v15, v16, v17, v18, v19, v20, v21, v22, v23, v24, v25, v26, v27, v28, v29, v30, v31, v32, v33, v34, v35, v36, v37, v38, v39, v40, v41, v42, v43, v44, v45, v46, v47, v48, v49, v50, v51, v52, v53, v54, v55, v56, v57, v58, v59, v60, v61, v62, v63, v64, v65, v66, v67, v68, v69, v70, v71, v72, v73, v74, v75, v76, v77, v78, v79, v80, v81, v82, v83, v84, v85, v86, v87, v88, v89, v90, v91, v92, v93, v94, v95, v96, v97, v98, v99, v100, v101, v102, v103, v104, v105, v106, v107, v108, v109, v110, v111, v112, v113, v114, v115, v116, v117, v118, v119, v120, v121, v122, v123, v124, v125, v126, v127, v128, v129, v130, v131, v132, v133, v134, v135, v136, v137, v138, v139, v140, v141, v142, v143, v144, v145, v146, v147, v148, v149, v150, v151, v152, v153, v154, v155, v156, v157, v158, v159, v160, v161, v162, v163, v164, v165, v166, v167, v168, v169, v170, v171, v172, v173, v174, v175, v176, v177, v178, v179, v180, v181, v182, v183, v184, v185, v186, v187, v188, v189, v190], []⟩ W := by
  conv => arg 2; whnf
  have H0s : Hid (Below S1 W W) := Below.refl _ _
  have q0 : W.cell? ⟨D, 0, none⟩ = some xa := cell_n (HX.out _ H0s.out).d 0 rfl
  have q1 : W.cell? ⟨D, 1, none⟩ = some xb := cell_n (HX.out _ H0s.out).d 1 rfl
  have q2 : W.cell? ⟨D, 2, none⟩ = some xd := cell_n (HX.out _ H0s.out).d 2 rfl
  have K := Lib.hid (begin_own xa xb xd ov c ops W (HX.out _ H0s.out).cd.conf (HX.out _ H0s.out).o.opsW)
  have K9 : Hid (∀ w', Cfx B D S F a0 b0 d0 xa xb xd ov av hx hav c ops hv w' → Calls Try.prog 45 #[.agg #[a0, b0, d0], av] w' (GotR w' (beginP c ops))) := fun w' h => refBegin_law a0 b0 d0 av c ops w' h.cb (opsR_sl h.oa)
  have K8 : Hid (∀ w', Cfx B D S F a0 b0 d0 xa xb xd ov av hx hav c ops hv w' → Calls Try.prog 46 #[ov, av] w' fun e w'' => e = .returned (.bool true) ∧ Below w'.heap.size w' w'') := fun w' h => heldOps_law ov av S ops F w' h.o h.oa (by omega)
  have Hlen : Hid (∀ x, x = (beginP c ops).2.v ∨ x = (beginP c ops).2.n ∨ x = (beginP c ops).2.l → x.length ≤ 1048576) := beginP_lens c ops
  obtain ⟨r, hr⟩ := hide (beginP c ops)
  rw [hr.out] at K K9 Hlen
  obtain ⟨e1, g⟩ := r
  go_wp2_with fail
  refine K.out.mono ?_
  rintro e w1 ⟨ga, gb, gd, rfl, hcf, hb⟩
  have hcf : Config3O W.heap.size w1 ga gb gd g := hcf
  obtain ⟨gx, gm, rfl⟩ : ∃ p k, ga = .slice p g.v.length k := hcf.v.len
  obtain ⟨gy, gn, rfl⟩ : ∃ p k, gb = .slice p g.n.length k := hcf.n.len
  obtain ⟨gz, go, rfl⟩ : ∃ p k, gd = .slice p g.l.length k := hcf.l.len
  have H1 : Hid (Below W.heap.size W w1) := hb
  have WG1 : Hid (WI S1 w1 (.slice gx g.v.length gm) ∧ WI S1 w1 (.slice gy g.n.length gn) ∧ WI S1 w1 (.slice gz g.l.length go)) := ⟨(WI.of_own hcf.v).base hS1, (WI.of_own hcf.n).base hS1, (WI.of_own hcf.l).base hS1⟩
  have Hg1 : Hid (Config3 w1 (.slice gx g.v.length gm) (.slice gy g.n.length gn) (.slice gz g.l.length go) g) := hcf.conf
  have ba : Below w1.heap.size w1 (w1.alloc (.cells #[(.slice gx g.v.length gm), (.slice gy g.n.length gn), (.slice gz g.l.length go)] 25)) := (Below.refl _ _).alloc (Nat.le_refl _) _
  have hxa : (w1.alloc (.cells #[(.slice gx g.v.length gm), (.slice gy g.n.length gn), (.slice gz g.l.length go)] 25)).heap[w1.heap.size]? = some (.cells #[(.slice gx g.v.length gm), (.slice gy g.n.length gn), (.slice gz g.l.length go)] 25 (0, 0)) := hp_at _ _ rfl
  obtain ⟨V1, hV1⟩ := hide (w1.alloc (.cells #[(.slice gx g.v.length gm), (.slice gy g.n.length gn), (.slice gz g.l.length go)] 25))
  rw [hV1.out] at ba hxa
  obtain ⟨G, hGG⟩ := hide w1.heap.size
  rw [hGG.out] at hxa
  have HV : Hid (Below W.heap.size W V1) := H1.out.trans (ba.mono H1.out.size)
  have WG2 : Hid (WI S1 V1 (.slice gx g.v.length gm) ∧ WI S1 V1 (.slice gy g.n.length gn) ∧ WI S1 V1 (.slice gz g.l.length go)) := by
    have kk : KeepSz w1 V1 := KeepSz.below ba
    exact ⟨WG1.out.1.keep kk, WG1.out.2.1.keep kk, WG1.out.2.2.keep kk⟩
  have Hg2 : Hid (Config3 V1 (.slice gx g.v.length gm) (.slice gy g.n.length gn) (.slice gz g.l.length go) g) := Hg1.out.mono ba
  have Hxa := Lib.hid hxa
  have HVs : Hid (Below S1 W V1) := HV.out.mono hS1
  clear hb hcf ba hxa q0 q1 q2 K
  try dsimp only
  go_upto_region 8 with fail
  rw [hV1.out, hGG.out]
  have p0 : V1.cell? ⟨B, 0, none⟩ = some a0 := cell_n (HX.out _ HVs.out).b 0 rfl
  have p1 : V1.cell? ⟨B, 1, none⟩ = some b0 := cell_n (HX.out _ HVs.out).b 1 rfl
  have p2 : V1.cell? ⟨B, 2, none⟩ = some d0 := cell_n (HX.out _ HVs.out).b 2 rfl
  go_wp2_with fail
  refine (K9.out _ (HX.out _ HVs.out)).mono ?_
  rintro e w2 ⟨ra, rb, rd, rfl, hcr, hb⟩
  have hcr : Config3 w2 ra rb rd g := hcr
  obtain ⟨rx, rm, rfl, _⟩ := len_of_Ints hcr.v
  obtain ⟨ry, rn, rfl, _⟩ := len_of_Ints hcr.n
  obtain ⟨rz, ro, rfl, _⟩ := len_of_Ints hcr.l
  have H2 := Lib.hid (HV.out.trans (hb.mono HV.out.size))
  have Hg3 := Lib.hid (Hg2.out.mono hb)
  have hG2 : Hid (w2.heap[G]? = some (.cells #[(.slice gx g.v.length gm), (.slice gy g.n.length gn), (.slice gz g.l.length go)] 25 (0, 0))) := (hb.block G (lt_of_block Hxa.out)).trans Hxa.out
  have WG3 : Hid (WI S1 w2 (.slice gx g.v.length gm) ∧ WI S1 w2 (.slice gy g.n.length gn) ∧ WI S1 w2 (.slice gz g.l.length go)) := ⟨WG2.out.1.keep (KeepSz.below hb), WG2.out.2.1.keep (KeepSz.below hb), WG2.out.2.2.keep (KeepSz.below hb)⟩
  have ba : Below w2.heap.size w2 (w2.alloc (.cells #[(.slice rx g.v.length rm), (.slice ry g.n.length rn), (.slice rz g.l.length ro)] 25)) := (Below.refl _ _).alloc (Nat.le_refl _) _
  have hxr : (w2.alloc (.cells #[(.slice rx g.v.length rm), (.slice ry g.n.length rn), (.slice rz g.l.length ro)] 25)).heap[w2.heap.size]? = some (.cells #[(.slice rx g.v.length rm), (.slice ry g.n.length rn), (.slice rz g.l.length ro)] 25 (0, 0)) := hp_at _ _ rfl
  obtain ⟨V2, hV2⟩ := hide (w2.alloc (.cells #[(.slice rx g.v.length rm), (.slice ry g.n.length rn), (.slice rz g.l.length ro)] 25))
  rw [hV2.out] at ba hxr
  have H3 : Hid (Below W.heap.size W V2) := H2.out.trans (ba.mono H2.out.size)
  have hG3 : Hid (V2.heap[G]? = some (.cells #[(.slice gx g.v.length gm), (.slice gy g.n.length gn), (.slice gz g.l.length go)] 25 (0, 0))) := (ba.block G (lt_of_block hG2.out)).trans hG2.out
  have WG4 : Hid (WI S1 V2 (.slice gx g.v.length gm) ∧ WI S1 V2 (.slice gy g.n.length gn) ∧ WI S1 V2 (.slice gz g.l.length go)) := ⟨WG3.out.1.keep (KeepSz.below ba), WG3.out.2.1.keep (KeepSz.below ba), WG3.out.2.2.keep (KeepSz.below ba)⟩
  have Hg4 := Lib.hid (Hg3.out.mono ba)
  have Hr4 := Lib.hid (hcr.mono ba)
  obtain ⟨R, hRR⟩ := hide w2.heap.size
  rw [hRR.out] at hxr
  have Hxr := Lib.hid hxr
  clear hb hcr ba hxr p0 p1 p2
  try dsimp only
  go_upto_region 9 with fail
  rw [hV2.out, hRR.out]
  go_wp2_with fail
  refine (K8.out _ (HX.out _ (H3.out.mono hS1))).mono ?_
  rintro e V3 ⟨rfl, hb⟩
  have H4 := Lib.hid (H3.out.trans (hb.mono H3.out.size))
  have hG4 : Hid (V3.heap[G]? = some (.cells #[(.slice gx g.v.length gm), (.slice gy g.n.length gn), (.slice gz g.l.length go)] 25 (0, 0))) := (hb.block G (lt_of_block hG3.out)).trans hG3.out
  have hR4 : Hid (V3.heap[R]? = some (.cells #[(.slice rx g.v.length rm), (.slice ry g.n.length rn), (.slice rz g.l.length ro)] 25 (0, 0))) := (hb.block R (lt_of_block Hxr.out)).trans Hxr.out
  have WG5 : Hid (WI S1 V3 (.slice gx g.v.length gm) ∧ WI S1 V3 (.slice gy g.n.length gn) ∧ WI S1 V3 (.slice gz g.l.length go)) := ⟨WG4.out.1.keep (KeepSz.below hb), WG4.out.2.1.keep (KeepSz.below hb), WG4.out.2.2.keep (KeepSz.below hb)⟩
  have KS := ref_sameConfig (.slice gx g.v.length gm) (.slice gy g.n.length gn) (.slice gz g.l.length go) (.slice rx g.v.length rm) (.slice ry g.n.length rn) (.slice rz g.l.length ro) g g V3 (Hg4.out.mono hb) (Hr4.out.mono hb)
  rw [show sameConf g g = true from by simp [sameConf]] at KS
  have KS := Lib.hid KS
  have s0 : V3.cell? ⟨G, 0, none⟩ = some (.slice gx g.v.length gm) := cell_n hG4.out 0 rfl
  have s1 : V3.cell? ⟨G, 1, none⟩ = some (.slice gy g.n.length gn) := cell_n hG4.out 1 rfl
  have s2 : V3.cell? ⟨G, 2, none⟩ = some (.slice gz g.l.length go) := cell_n hG4.out 2 rfl
  have t0 : V3.cell? ⟨R, 0, none⟩ = some (.slice rx g.v.length rm) := cell_n hR4.out 0 rfl
  have t1 : V3.cell? ⟨R, 1, none⟩ = some (.slice ry g.n.length rn) := cell_n hR4.out 1 rfl
  have t2 : V3.cell? ⟨R, 2, none⟩ = some (.slice rz g.l.length ro) := cell_n hR4.out 2 rfl
  clear hb
  go_wp2_with fail
  refine KS.out.mono ?_
  rintro e w3 ⟨rfl, hb⟩
  have H5 := Lib.hid (H4.out.trans (hb.mono H4.out.size))
  have hG5 : Hid (w3.heap[G]? = some (.cells #[(.slice gx g.v.length gm), (.slice gy g.n.length gn), (.slice gz g.l.length go)] 25 (0, 0))) := (hb.block G (lt_of_block hG4.out)).trans hG4.out
  have WG6 : Hid (WI S1 w3 (.slice gx g.v.length gm) ∧ WI S1 w3 (.slice gy g.n.length gn) ∧ WI S1 w3 (.slice gz g.l.length go)) := ⟨WG5.out.1.keep (KeepSz.below hb), WG5.out.2.1.keep (KeepSz.below hb), WG5.out.2.2.keep (KeepSz.below hb)⟩
  clear hb s0 s1 s2 t0 t1 t2
  have hS1' : S1 ≤ w3.heap.size := Nat.le_trans hS1 H5.out.size
  have HP' : Hid (∀ w', Below S1 w3 w' → post (.returned (.bool true)) w') := fun w' h => HP.out w' ((H5.out.mono hS1).trans h)
  have HX' : Hid (∀ w', Below S1 w3 w' → Cfx B D S F a0 b0 d0 xa xb xd ov av hx hav c ops hv w') := fun w' h => HX.out w' ((H5.out.mono hS1).trans h)
  have NE3 : Hid (∀ v, v = (.slice gx g.v.length gm) ∨ v = (.slice gy g.n.length gn) ∨ v = (.slice gz g.l.length go) → ∀ p n c, v = Value.slice p n c → n ≤ 1099511627776) := by
    show ∀ v, _ → _
    intro v h p n c he
    rcases h with h | h | h
    · rw [h] at he
      injection he with e1 e2 e3
      have := (Hlen.out _ (Or.inl rfl) : g.v.length ≤ 1048576)
      omega
    · rw [h] at he
      injection he with e1 e2 e3
      have := (Hlen.out _ (Or.inr (Or.inl rfl)) : g.n.length ≤ 1048576)
      omega
    · rw [h] at he
      injection he with e1 e2 e3
      have := (Hlen.out _ (Or.inr (Or.inr rfl)) : g.l.length ≤ 1048576)
      omega
  try dsimp only
  iterate 12 (first | done | exact exact_finish B D S F a0 b0 d0 xa xb xd ov av hx hav c ops hv hc1 hc2 hc3 hvl hol S1 w3 hS1' post HP' HX' G (.slice gx g.v.length gm) (.slice gy g.n.length gn) (.slice gz g.l.length go) hG5 WG6 NE3 e1 | go_step)
end Go.Proofs.Ytgdmcbjlfnjhjaa
