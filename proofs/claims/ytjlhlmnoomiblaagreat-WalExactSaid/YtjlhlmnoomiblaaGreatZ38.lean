/-
  What files say, read by the document: the end of Open: what is put right, and what is handed back.
-/
import Derived.Test.YtjlhlmnoomiblaaGreatZ37
import Derived.Test.YtjlhlmnoomiblaaGreatZ31
import Derived.Test.YtjlhlmnoomiblaaGreatZ30
import Derived.Deep.CutRange
import Derived.BigRegion
import Derived.Deep.MidRow
import Derived.Laws.Rows
namespace Go.Proofs.YtjlhlmnoomiblaaGreat
open Go.RowKit Wm Mm Lg Fl
set_option linter.unusedVariables false
set_option linter.unusedSimpArgs false

/-- what is known lies in block P, its rows in blocks of F -/
structure RefAt (F : Nat → Prop) (w : World) (P : Nat) (k : Kp) (ev x y z cx cy cz : Value) : Prop where
  blk : w.heap[P]? = some (.cells (cellsK k ev x y z cx cy cz) 43 (0, 0))
  es : Ents F w ev k.es
  sc : ConfG F w x y z k.sc
  cf : ConfG F w cx cy cz k.cf
  np : ¬ F P
theorem RefAt.below {F : Nat → Prop} {w w' : World} {P : Nat} {k : Kp} {ev x y z cx cy cz : Value} (h : RefAt F w P k ev x y z cx cy cz) (hb : Below w.heap.size w w') : RefAt F w' P k ev x y z cx cy cz :=
  ⟨(hb.block P (lt_of_block h.blk)).trans h.blk, h.es.frame (Plain.good _) (Agree.below hb), h.sc.frame (Agree.below hb), h.cf.frame (Agree.below hb), h.np⟩
theorem RefAt.block {F : Nat → Prop} {w w' : World} {P : Nat} {k k' : Kp} {ev x y z cx cy cz : Value} (h : RefAt F w P k ev x y z cx cy cz) (hc : Chg (fun b => b = P) w w') (he : k'.es = k.es) (hs : k'.sc = k.sc) (hcf : k'.cf = k.cf)
    (hb : w'.heap[P]? = some (.cells (cellsK k' ev x y z cx cy cz) 43 (0, 0))) : RefAt F w' P k' ev x y z cx cy cz := by
  have ha : Agree F w w' := hc.agree (fun b hb e => h.np (e ▸ hb))
  exact ⟨hb, by rw [he]; exact h.es.frame (Plain.good _) ha, by rw [hs]; exact h.sc.frame ha, by rw [hcf]; exact h.cf.frame ha, h.np⟩
theorem RefAt.grown {F : Nat → Prop} {P S : Nat} {k : Kp} {ev x y z cx cy cz av : Value} {n : Nat} {xs : List Value} {W A V : World} (h : RefAt F W P k ev x y z cx cy cz) (hA : Below W.heap.size W A) (ha : A.ownsRow S 38 5 av n xs) (hg : A.grownBy V av.ownBlock) (hS : P < S) (hN : ∀ g, av.ownBlock = some g → ¬ F g) : RefAt F V P k ev x y z cx cy cz := by
  have h2 := h.below hA
  have hag : Agree F A V := Agree.grown hg (fun b hb hlt e => hN b e.symm hb)
  refine ⟨(hg.block P (lt_of_block h2.blk) (fun e => ?_)).trans h2.blk, h2.es.frame (Plain.good _) hag, h2.sc.frame hag, h2.cf.frame hag, h2.np⟩
  have := (ha.lt P e.symm).1
  omega
theorem RefAt.weak {F G : Nat → Prop} {w : World} {P : Nat} {k : Kp} {ev x y z cx cy cz : Value} (h : RefAt F w P k ev x y z cx cy cz) (hs : ∀ b, F b → b < w.heap.size → G b) (hn : ¬ G P) : RefAt G w P k ev x y z cx cy cz :=
  ⟨h.blk, h.es.weak (Plain.good _) hs, h.sc.weak hs, h.cf.weak hs, hn⟩
set_option maxHeartbeats 4000000 in
set_option maxRecDepth 100000 in
theorem ropen_conf_end {v0 v1 v2 v3 v5 v6 v9 v10 v11 v12 v13 v14 v15 v16 v17 v18 v19 v20 v21 v22 v23 v24 v25 v26 v27 v28 v29 v30 v31 v32 v33 v34 v35 v36 v37 v38 v39 v40 v41 v42 v43 v44 v45 v46 v47 v48 v49 v50 v51 v52 v53 v54 v55 v56 v57 v58 v59 v60 v61 v62 v63 v64 v65 v66 v67 v68 v69 v70 v71 v72 v73 v74 v75 v76 v77 v78 v79 v80 v81 v82 v83 v84 v85 v86 v87 v88 v89 v90 v91 v92 v93 v94 v95 v96 v97 v98 v99 v100 v101 v102 v103 v104 v105 v106 v107 v108 v109 v110 v111 v112 v113 v114 v115 v116 v117 v118 v119 v120 v121 v122 v123 v124 v125 v126 v127 v128 v129 v130 v131 v132 v133 v134 v135 v136 v137 v138 v139 v140 v141 v142 v143 v144 v145 v146 v147 v148 v149 v150 v151 v152 v153 v154 v155 v156 v157 v158 v159 v160 v161 v162 v163 v164 : Value} (F : Nat → Prop) (w W : World) (post : Ending → World → Prop) (B P : Nat) (k : Kp) (ev x y z cx cy cz : Value) (aa : Option Addr) (na ca : Nat) (al : List ActP)
    (HK : Hid (RefAt F W P k ev x y z cx cy cz)) (HB : Hid (W.heap[B]? = some (.cells zeroKept.toArray 43 (0, 0)))) (HBP : Hid (B ≠ P ∧ w.heap.size ≤ B ∧ ¬ F B)) (HA : Hid (Acs (fun b => b ≠ B) W (.slice aa na ca) al))
    (HW : Hid (Below w.heap.size w W))
    (HP : Hid (∀ e w', OpenPost w (if confOk k.cf = true then some (k, al) else none) e w' → post e w')) :
    Code.wp Tryz.prog ((Tryz.f8.body.bind (seqAt 39)).getD .skip) (bodyPost Tryz.prog Tryz.f8 post) ⟨#[v0, v1, v2, v3, .pointer (some ⟨B, 0, none⟩), v5, v6, .pointer (some ⟨P, 0, none⟩), .slice aa na ca, v9, v10, v11, v12, v13, v14, v15, v16, v17, v18, v19, v20, v21, v22, v23, v24, v25, v26, v27, v28, v29, v30, v31, v32, v33, v34, v35, v36, v37, v38, v39, v40, v41, v42, v43, v44, v45, v46, v47, v48, v49, v50, v51, v52, v53, v54, v55, v56, v57, v58, v59, v60, v61, v62, v63, v64, v65, v66, v67, v68, v69, v70, v71, v72, v73, v74, v75, v76, v77, v78, v79, v80, v81, v82, v83, v84, v85, v86, v87, v88, v89, v90, v91, v92, v93, v94, v95, v96, v97, v98, v99, v100, v101, v102, v103, v104, v105, v106, v107, v108, v109, v110, v111, v112, v113, v114, v115, v116, v117, v118, v119, v120, v121, v122, v123, v124, v125, v126, v127, v128, v129, v130, v131, v132, v133, v134, v135, v136, v137, v138, v139, v140, v141, v142, v143, v144, v145, v146, v147, v148, v149, v150, v151, v152, v153, v154, v155, v156, v157, v158, v159, v160, v161, v162, v163, v164], []⟩ W := by
  conv => arg 2; whnf
  obtain ⟨ae, ce, hev, _, _⟩ := HK.out.es.slice
  obtain ⟨ao1, cp1, hx, _⟩ := len_of_Ints HK.out.sc.v.ints
  obtain ⟨ao2, cp2, hy, _⟩ := len_of_Ints HK.out.sc.n.ints
  obtain ⟨ao3, cp3, hz, _⟩ := len_of_Ints HK.out.sc.l.ints
  obtain ⟨ao4, cp4, hcx, _⟩ := len_of_Ints HK.out.cf.v.ints
  obtain ⟨ao5, cp5, hcy, _⟩ := len_of_Ints HK.out.cf.n.ints
  obtain ⟨ao6, cp6, hcz, _⟩ := len_of_Ints HK.out.cf.l.ints
  subst hev hx hy hz hcx hcy hcz
  have HV := Lib.hid (ref_isConfig _ _ _ k.cf W HK.out.cf.conf)
  have HS : Hid (∀ w1, Below W.heap.size W w1 → Calls Tryz.prog 35 #[.agg #[.slice ao4 k.cf.v.length cp4, .slice ao5 k.cf.n.length cp5, .slice ao6 k.cf.l.length cp6], .agg #[.slice none 0 0, .slice none 0 0, .slice none 0 0]] w1 fun e w' => e = .returned (.bool (sameConf k.cf noC)) ∧ Below w1.heap.size w1 w') := fun w1 hb => ref_sameConfig _ _ _ _ _ _ k.cf noC w1 (HK.out.cf.conf.mono hb) (Config3.nil w1)
  have HC : Hid (confOk k.cf = (validB k.cf || sameConf k.cf noC)) := rfl
  obtain ⟨q1, hq1⟩ := hide (validB k.cf)
  obtain ⟨q2, hq2⟩ := hide (sameConf k.cf noC)
  rw [hq1.out] at HV
  rw [hq2.out] at HS
  rw [hq1.out, hq2.out] at HC
  rw [HC.out] at HP
  have HKx : Hid (∀ w1, Below W.heap.size W w1 → RefAt F w1 P k (.slice ae k.es.length ce) (.slice ao1 k.sc.v.length cp1) (.slice ao2 k.sc.n.length cp2) (.slice ao3 k.sc.l.length cp3) (.slice ao4 k.cf.v.length cp4) (.slice ao5 k.cf.n.length cp5) (.slice ao6 k.cf.l.length cp6) ∧ w1.heap[B]? = some (.cells zeroKept.toArray 43 (0, 0)) ∧ Below w.heap.size w w1) := fun w1 hb => ⟨HK.out.below hb, (hb.block B (lt_of_block HB.out)).trans HB.out, HW.out.trans (hb.mono HW.out.size)⟩
  -- the two ways out
  have HNo : Hid (∀ w1, Below W.heap.size W w1 → (q1 || q2) = false → post (.returned (.tuple #[.agg zeroKept.toArray, .slice none 0 0, .int .i64 16])) (setAll w1 B zeroKept)) := by
    show ∀ w1, _ → _ → _
    intro w1 hb hq
    refine HP.out _ _ ?_
    rw [hq]
    exact ⟨setAll_below (HKx.out w1 hb).2.2 HBP.out.2.1 _, rfl⟩
  have HYes : Hid (∀ w1, Below W.heap.size W w1 → (q1 || q2) = true → post (.returned (.tuple #[.agg (cellsK k (.slice ae k.es.length ce) (.slice ao1 k.sc.v.length cp1) (.slice ao2 k.sc.n.length cp2) (.slice ao3 k.sc.l.length cp3) (.slice ao4 k.cf.v.length cp4) (.slice ao5 k.cf.n.length cp5) (.slice ao6 k.cf.l.length cp6)), .slice aa na ca, .int .i64 0])) (setAll w1 B (cellsK k (.slice ae k.es.length ce) (.slice ao1 k.sc.v.length cp1) (.slice ao2 k.sc.n.length cp2) (.slice ao3 k.sc.l.length cp3) (.slice ao4 k.cf.v.length cp4) (.slice ao5 k.cf.n.length cp5) (.slice ao6 k.cf.l.length cp6)).toList)) := by
    show ∀ w1, _ → _ → _
    intro w1 hb hq
    refine HP.out _ _ ?_
    rw [hq]
    obtain ⟨h1, h2, h3⟩ := HKx.out w1 hb
    have hc : Chg (fun b => b = B) w1 (setAll w1 B (cellsK k (.slice ae k.es.length ce) (.slice ao1 k.sc.v.length cp1) (.slice ao2 k.sc.n.length cp2) (.slice ao3 k.sc.l.length cp3) (.slice ao4 k.cf.v.length cp4) (.slice ao5 k.cf.n.length cp5) (.slice ao6 k.cf.l.length cp6)).toList) := chg_from B _ w1 0
    have hag : Agree F w1 (setAll w1 B (cellsK k (.slice ae k.es.length ce) (.slice ao1 k.sc.v.length cp1) (.slice ao2 k.sc.n.length cp2) (.slice ao3 k.sc.l.length cp3) (.slice ao4 k.cf.v.length cp4) (.slice ao5 k.cf.n.length cp5) (.slice ao6 k.cf.l.length cp6)).toList) := hc.agree (fun b hb e => HBP.out.2.2 (e ▸ hb))
    refine ⟨setAll_below h3 HBP.out.2.1 _, _, _, _, _, _, _, _, _, rfl, ?_, ?_, ?_, ?_⟩
    · exact (h1.es.frame (Plain.good _) hag).weak (Plain.good _) (fun _ _ _ => trivial)
    · exact (h1.sc.frame hag).conf
    · exact (h1.cf.frame hag).conf
    · exact (HA.out.frame (Plain.good _) ((Agree.below hb).trans (hc.agree (fun b hb e => hb e)))).weak (Plain.good _) (fun _ _ _ => trivial)
  have d12 := cell_n HK.out.blk 12 (v := .slice ao4 k.cf.v.length cp4) rfl
  have d13 := cell_n HK.out.blk 13 (v := .slice ao5 k.cf.n.length cp5) rfl
  have d14 := cell_n HK.out.blk 14 (v := .slice ao6 k.cf.l.length cp6) rfl
  go_wp2_with fail
  refine HV.out.mono ?_
  rintro e w1 ⟨rfl, hb1⟩
  have H1 := Lib.hid hb1
  have hk1 := (HKx.out w1 hb1).1.blk
  clear hb1 d12 d13 d14
  have d12 := cell_n hk1 12 (v := .slice ao4 k.cf.v.length cp4) rfl
  have d13 := cell_n hk1 13 (v := .slice ao5 k.cf.n.length cp5) rfl
  have d14 := cell_n hk1 14 (v := .slice ao6 k.cf.l.length cp6) rfl
  clear hk1
  go_wp2_with fail
  refine (HS.out w1 H1.out).mono ?_
  rintro e w2 ⟨rfl, hb2⟩
  have H2 := Lib.hid (H1.out.trans (hb2.mono H1.out.size))
  clear hb2 d12 d13 d14
  have HY : Hid ((q1 || q2) = true → Hid (post (.returned (.tuple #[.agg (cellsK k (.slice ae k.es.length ce) (.slice ao1 k.sc.v.length cp1) (.slice ao2 k.sc.n.length cp2) (.slice ao3 k.sc.l.length cp3) (.slice ao4 k.cf.v.length cp4) (.slice ao5 k.cf.n.length cp5) (.slice ao6 k.cf.l.length cp6)), .slice aa na ca, .int .i64 0])) (setAll w2 B (cellsK k (.slice ae k.es.length ce) (.slice ao1 k.sc.v.length cp1) (.slice ao2 k.sc.n.length cp2) (.slice ao3 k.sc.l.length cp3) (.slice ao4 k.cf.v.length cp4) (.slice ao5 k.cf.n.length cp5) (.slice ao6 k.cf.l.length cp6)).toList))) := fun h => Lib.hid (HYes.out w2 H2.out h)
  have HN : Hid ((q1 || q2) = false → Hid (post (.returned (.tuple #[.agg zeroKept.toArray, .slice none 0 0, .int .i64 16])) (setAll w2 B zeroKept))) := fun h => Lib.hid (HNo.out w2 H2.out h)
  cases q1 <;> cases q2
  case false.false =>
    have h9 := setAll_at (HKx.out w2 H2.out).2.1 zeroKept rfl
    have H9 := Lib.hid h9
    have Hth : Hid (w2.there B 0 15) := there_ofW (HKx.out w2 H2.out).2.1
    have Hpost := Lib.hid ((HN.out rfl).out)
    clear h9
    go_upto_region 42 with fail
    refine wp_region_lit ?_
    iterate 3 go_step
    refine wpList_store_mid rfl 43 (.tmp 4) (.tmp 162) rfl B 0 zeroKept.toArray rfl rfl Hth.out size_kept (by simp [Value.oneCell']) ?_
    rw [setCells_eqW]
    show wpList _ _ _ _ _ (setAll w2 B zeroKept)
    generalize setAll w2 B zeroKept = W9 at H9 Hpost ⊢
    go_wp2_with fail
    refine bodyPost_ret (results_three rfl _ W9 B 43 zeroKept.toArray (0, 0) _ rfl H9.out Tryz.underlying43 rfl size_kept) rfl ?_
    exact Hpost.out
  all_goals
    have h9 := setAll_at (HKx.out w2 H2.out).2.1 (cellsK k (.slice ae k.es.length ce) (.slice ao1 k.sc.v.length cp1) (.slice ao2 k.sc.n.length cp2) (.slice ao3 k.sc.l.length cp3) (.slice ao4 k.cf.v.length cp4) (.slice ao5 k.cf.n.length cp5) (.slice ao6 k.cf.l.length cp6)).toList rfl
    have H9 := Lib.hid h9
    have Hth : Hid (w2.there B 0 15) := there_ofW (HKx.out w2 H2.out).2.1
    have Hbl := Lib.hid (HKx.out w2 H2.out).1.blk
    have Hpost := HY.out rfl
    clear h9
    go_upto_region 43 with fail
    refine wp_region_lit ?_
    refine wpList_load_row rfl 43 (.tmp 7) rfl P rfl 43 (cellsK k (.slice ae k.es.length ce) (.slice ao1 k.sc.v.length cp1) (.slice ao2 k.sc.n.length cp2) (.slice ao3 k.sc.l.length cp3) (.slice ao4 k.cf.v.length cp4) (.slice ao5 k.cf.n.length cp5) (.slice ao6 k.cf.l.length cp6)) (0, 0) _ Hbl.out Tryz.underlying43 rfl size_kept ?_
    iterate 3 go_step
    refine wpList_store_mid rfl 43 (.tmp 4) (.tmp 163) rfl B 0 (cellsK k (.slice ae k.es.length ce) (.slice ao1 k.sc.v.length cp1) (.slice ao2 k.sc.n.length cp2) (.slice ao3 k.sc.l.length cp3) (.slice ao4 k.cf.v.length cp4) (.slice ao5 k.cf.n.length cp5) (.slice ao6 k.cf.l.length cp6)) rfl rfl Hth.out size_kept (by simp [Value.oneCell']) ?_
    rw [setCells_eqW]
    show wpList _ _ _ _ _ (setAll w2 B (cellsK k (.slice ae k.es.length ce) (.slice ao1 k.sc.v.length cp1) (.slice ao2 k.sc.n.length cp2) (.slice ao3 k.sc.l.length cp3) (.slice ao4 k.cf.v.length cp4) (.slice ao5 k.cf.n.length cp5) (.slice ao6 k.cf.l.length cp6)).toList)
    generalize setAll w2 B (cellsK k (.slice ae k.es.length ce) (.slice ao1 k.sc.v.length cp1) (.slice ao2 k.sc.n.length cp2) (.slice ao3 k.sc.l.length cp3) (.slice ao4 k.cf.v.length cp4) (.slice ao5 k.cf.n.length cp5) (.slice ao6 k.cf.l.length cp6)).toList = W9 at H9 Hpost ⊢
    go_wp2_with fail
    refine bodyPost_ret (results_three rfl _ W9 B 43 (cellsK k (.slice ae k.es.length ce) (.slice ao1 k.sc.v.length cp1) (.slice ao2 k.sc.n.length cp2) (.slice ao3 k.sc.l.length cp3) (.slice ao4 k.cf.v.length cp4) (.slice ao5 k.cf.n.length cp5) (.slice ao6 k.cf.l.length cp6)) (0, 0) _ rfl H9.out Tryz.underlying43 rfl size_kept) rfl ?_
    exact Hpost.out
set_option maxHeartbeats 4000000 in
set_option maxRecDepth 100000 in
theorem ropen_fix {v0 v1 v2 v3 v5 v6 v9 v10 v11 v12 v13 v14 v15 v16 v17 v18 v19 v21 v22 v23 v24 v25 v26 v27 v28 v29 v30 v31 v32 v33 v34 v35 v36 v37 v38 v39 v40 v41 v42 v43 v44 v45 v46 v47 v48 v49 v50 v51 v52 v53 v54 v55 v56 v57 v58 v59 v60 v61 v62 v63 v64 v65 v66 v67 v68 v69 v70 v71 v72 v73 v74 v75 v76 v77 v78 v79 v80 v81 v82 v83 v84 v85 v86 v87 v88 v89 v90 v91 v92 v93 v94 v95 v96 v97 v98 v99 v100 v101 v102 v103 v104 v105 v106 v107 v108 v109 v110 v111 v112 v113 v114 v115 v116 v117 v118 v119 v120 v121 v122 v123 v124 v125 v126 v127 v128 v129 v130 v131 v132 v133 v134 v135 v136 v137 v138 v139 v140 v141 v142 v143 v144 v145 v146 v147 v148 v149 v150 v151 v152 v153 v154 v155 v156 v157 v158 v159 v160 v161 v162 v163 v164 : Value} (F : Nat → Prop) (w W : World) (post : Ending → World → Prop) (S B P H : Nat) (k : Kp) (th vh ch : Int) (ev x y z cx cy cz : Value) (aa : Option Addr) (na ca : Nat) (al : List ActP)
    (HK : Hid (RefAt F W P k ev x y z cx cy cz)) (HB : Hid (W.heap[B]? = some (.cells zeroKept.toArray 43 (0, 0)))) (HBP : Hid (B ≠ P ∧ w.heap.size ≤ B ∧ ¬ F B))
    (HH : Hid (W.heap[H]? = some (.cells #[.int .i64 th, .int .i64 vh, .int .i64 ch] 23 (0, 0))))
    (HA : Hid (W.ownsRow S 38 5 (.slice aa na ca) na (al.flatMap rowA))) (Hna : Hid (na = al.length ∧ na ≤ 8)) (HS : Hid (B < S ∧ P < S ∧ S ≤ W.heap.size)) (HAN : Hid (∀ g, (Value.slice aa na ca).ownBlock = some g → ¬ F g))
    (Hi : Hid ((0 ≤ k.t ∧ k.t ≤ 1099511627775) ∧ (0 ≤ k.v ∧ k.v ≤ 1099511627775) ∧ (0 ≤ k.c ∧ k.c ≤ 1099511627775)))
    (HW : Hid (Below w.heap.size w W))
    (HP : Hid (∀ e w', OpenPost w (if confOk k.cf = true then some (k, al ++ if ((k.t == th) && ((k.v == vh) && (k.c == ch))) = true then [] else [⟨2, nLog, [], hardB k.t k.v k.c, 0⟩, ⟨3, nLog, [], [], 0⟩]) else none) e w' → post e w')) :
    Code.wp Tryz.prog ((Tryz.f8.body.bind (seqAt 37)).getD .skip) (bodyPost Tryz.prog Tryz.f8 post) ⟨#[v0, v1, v2, v3, .pointer (some ⟨B, 0, none⟩), v5, v6, .pointer (some ⟨P, 0, none⟩), .slice aa na ca, v9, v10, v11, v12, v13, v14, v15, v16, v17, v18, v19, .pointer (some ⟨H, 0, none⟩), v21, v22, v23, v24, v25, v26, v27, v28, v29, v30, v31, v32, v33, v34, v35, v36, v37, v38, v39, v40, v41, v42, v43, v44, v45, v46, v47, v48, v49, v50, v51, v52, v53, v54, v55, v56, v57, v58, v59, v60, v61, v62, v63, v64, v65, v66, v67, v68, v69, v70, v71, v72, v73, v74, v75, v76, v77, v78, v79, v80, v81, v82, v83, v84, v85, v86, v87, v88, v89, v90, v91, v92, v93, v94, v95, v96, v97, v98, v99, v100, v101, v102, v103, v104, v105, v106, v107, v108, v109, v110, v111, v112, v113, v114, v115, v116, v117, v118, v119, v120, v121, v122, v123, v124, v125, v126, v127, v128, v129, v130, v131, v132, v133, v134, v135, v136, v137, v138, v139, v140, v141, v142, v143, v144, v145, v146, v147, v148, v149, v150, v151, v152, v153, v154, v155, v156, v157, v158, v159, v160, v161, v162, v163, v164], []⟩ W := by
  conv => arg 2; whnf
  have d0 := cell_n HK.out.blk 0 (v := .int .i64 k.t) rfl
  have d1 := cell_n HK.out.blk 1 (v := .int .i64 k.v) rfl
  have d2 := cell_n HK.out.blk 2 (v := .int .i64 k.c) rfl
  have h0 := cell_n HH.out 0 (v := .int .i64 th) rfl
  have h1 := cell_n HH.out 1 (v := .int .i64 vh) rfl
  have h2 := cell_n HH.out 2 (v := .int .i64 ch) rfl
  have HR : Hid (∀ w1, Calls Tryz.prog 33 #[.agg #[.int .i64 k.t, .int .i64 k.v, .int .i64 k.c]] w1 fun e w' => e = .returned (str (hardB k.t k.v k.c)) ∧ Below w1.heap.size w1 w') := by
    show ∀ w1, _
    intro w1
    obtain ⟨n1, e1⟩ : ∃ n : Nat, k.t = n := ⟨k.t.toNat, by have := Hi.out.1; omega⟩
    obtain ⟨n2, e2⟩ : ∃ n : Nat, k.v = n := ⟨k.v.toNat, by have := Hi.out.2.1; omega⟩
    obtain ⟨n3, e3⟩ : ∃ n : Nat, k.c = n := ⟨k.c.toNat, by have := Hi.out.2.2; omega⟩
    have hi := Hi.out
    rw [e1, e2, e3] at hi ⊢
    exact ref_hard n1 n2 n3 w1 (by omega) (by omega) (by omega)
  have HAs : Hid (∀ V v n l, V.ownsRow S 38 5 v n (l.flatMap rowA) → n = l.length → Acs (fun b => b ≠ B) V v l) := by
    show ∀ V v n l, _ → _ → _
    rintro V v n l h rfl
    exact Sl.own rowA rowA_len h (fun _ _ => rfl) (fun g _ hg _ => by have := HS.out; omega)
  cases q0 : (k.t == th) <;> cases q1 : (k.v == vh) <;> cases q2 : (k.c == ch)
  case true.true.true =>
    rw [q0, q1, q2] at HP
    have HP1 : Hid (∀ e w', OpenPost w (if confOk k.cf = true then some (k, al) else none) e w' → post e w') := by
      have h := HP.out
      have e0 : (if (true && (true && true)) = true then ([] : List ActP) else [⟨2, nLog, [], hardB k.t k.v k.c, 0⟩, ⟨3, nLog, [], [], 0⟩]) = [] := rfl
      rw [e0, List.append_nil] at h
      exact h
    have HA1 := Lib.hid (HAs.out W _ na al HA.out Hna.out.1)
    go_upto_if 140 with (fail)
    clear d0 d1 d2 h0 h1 h2 q0 q1 q2
    iterate 12 (first | done | exact ropen_conf_end F w W post B P k ev x y z cx cy cz aa na ca al HK HB HBP HA1 HW HP1 | go_step)
  all_goals
    rw [q0, q1, q2] at HP
    have HP1 : Hid (∀ e w', OpenPost w (if confOk k.cf = true then some (k, al ++ [⟨2, nLog, [], hardB k.t k.v k.c, 0⟩, ⟨3, nLog, [], [], 0⟩]) else none) e w' → post e w') := HP.out
    obtain ⟨hb, hhb⟩ := hide (hardB k.t k.v k.c)
    rw [hhb.out] at HR HP1
    go_wp2_with fail
    refine (HR.out _).mono ?_
    rintro e w1 ⟨rfl, hb1⟩
    have Hb1 := Lib.hid hb1
    clear hb1 d0 d1 d2 h0 h1 h2 q0 q1 q2
    have hA0 : Below W.heap.size W (w1.alloc (.cells (([⟨2, nLog, [], hb, 0⟩, ⟨3, nLog, [], [], 0⟩] : List ActP).flatMap rowA).toArray 38)) := Hb1.out.alloc Hb1.out.size _
    have HA0 := Lib.hid hA0
    have HoA := Lib.hid (own_below HA.out hA0)
    have HsA : Hid (Src Tryz.prog 5 35 (.slice (some ⟨w1.heap.size, 0, none⟩) 2 2) 2 (([⟨2, nLog, [], hb, 0⟩, ⟨3, nLog, [], [], 0⟩] : List ActP).flatMap rowA) (w1.alloc (.cells (([⟨2, nLog, [], hb, 0⟩, ⟨3, nLog, [], [], 0⟩] : List ActP).flatMap rowA).toArray 38))) := src_new (w := w1) Tryz.underlying35 _ 2 rfl (acts_one [⟨2, nLog, [], hb, 0⟩, ⟨3, nLog, [], [], 0⟩])
    have HSz : Hid (S ≤ (w1.alloc (.cells (([⟨2, nLog, [], hb, 0⟩, ⟨3, nLog, [], [], 0⟩] : List ActP).flatMap rowA).toArray 38)).heap.size) := Nat.le_trans HS.out.2.2 HA0.out.size
    clear hA0
    go_wp2_with (at_builtin; refine wpList_append_src rfl _ _ 35 35 rfl S 38 _ 5 64 Tryz.underlying35 info_act rfl _ _ _ rfl HoA.out _ 2 _ rfl HsA.out (by have := Hna.out; unfold maxLen; omega) (by have := Hna.out; omega) HSz.out ?_)
    intro v9 V ho9 hg9
    obtain ⟨a9, k9, rfl⟩ := owns_slice ho9
    have HKV := Lib.hid (HK.out.grown HA0.out HoA.out hg9 HS.out.2.1 HAN.out)
    have HBV : Hid (V.heap[B]? = some (.cells zeroKept.toArray 43 (0, 0))) := by
      have hB0 := (HA0.out.block B (lt_of_block HB.out)).trans HB.out
      refine (hg9.block B (lt_of_block hB0) (fun e => ?_)).trans hB0
      have := (HoA.out.lt B e.symm).1
      have := HS.out
      omega
    have HWV : Hid (Below w.heap.size w V) := by
      show Below _ _ _
      have h1 : Below w.heap.size w (w1.alloc (.cells (([⟨2, nLog, [], hb, 0⟩, ⟨3, nLog, [], [], 0⟩] : List ActP).flatMap rowA).toArray 38)) := HW.out.trans (HA0.out.mono HW.out.size)
      exact h1.trans (below_own HoA.out hg9 (by have := HS.out; have := HBP.out; omega) h1.size)
    have HAV : Hid (Acs (fun b => b ≠ B) V (.slice a9 (na + 2) k9) (al ++ [⟨2, nLog, [], hb, 0⟩, ⟨3, nLog, [], [], 0⟩])) := by
      refine HAs.out V _ (na + 2) _ ?_ (by rw [List.length_append, Hna.out.1]; rfl)
      rw [List.flatMap_append]
      exact ho9
    clear ho9 hg9
    iterate 12 (first | done | exact ropen_conf_end F w V post B P k ev x y z cx cy cz a9 (na + 2) k9 (al ++ [⟨2, nLog, [], hb, 0⟩, ⟨3, nLog, [], [], 0⟩]) HKV HBV HBP HAV HWV HP1 | go_step)
set_option maxHeartbeats 4000000 in
set_option maxRecDepth 100000 in
theorem ropen_up {v0 v1 v2 v3 v5 v6 v9 v10 v11 v12 v13 v14 v15 v16 v17 v18 v19 v20 v21 v22 v23 v24 v25 v26 v27 v28 v29 v30 v31 v32 v33 v34 v35 v36 v37 v38 v39 v40 v41 v42 v43 v44 v45 v46 v47 v48 v49 v50 v51 v52 v53 v54 v55 v56 v57 v58 v59 v60 v61 v62 v63 v64 v65 v66 v67 v68 v69 v70 v71 v72 v73 v74 v75 v76 v77 v78 v79 v80 v81 v82 v83 v84 v85 v86 v87 v88 v89 v90 v91 v92 v93 v94 v95 v96 v97 v98 v99 v100 v101 v102 v103 v104 v105 v106 v107 v108 v109 v110 v111 v112 v113 v114 v115 v116 v117 v118 v119 v120 v121 v122 v123 v124 v125 v126 v127 v128 v129 v130 v131 v132 v133 v134 v135 v136 v137 v138 v139 v140 v141 v142 v143 v144 v145 v146 v147 v148 v149 v150 v151 v152 v153 v154 v155 v156 v157 v158 v159 v160 v161 v162 v163 v164 : Value} (F : Nat → Prop) (w W : World) (post : Ending → World → Prop) (S B P : Nat) (k : Kp) (ev x y z cx cy cz : Value) (aa : Option Addr) (na ca : Nat) (al : List ActP)
    (HK : Hid (RefAt F W P k ev x y z cx cy cz)) (HB : Hid (W.heap[B]? = some (.cells zeroKept.toArray 43 (0, 0)))) (HBP : Hid (B ≠ P ∧ w.heap.size ≤ B ∧ ¬ F B)) (HwP : Hid (w.heap.size ≤ P))
    (HA : Hid (W.ownsRow S 38 5 (.slice aa na ca) na (al.flatMap rowA))) (Hna : Hid (na = al.length ∧ na ≤ 8)) (HS : Hid (B < S ∧ P < S ∧ S ≤ W.heap.size)) (HAN : Hid (∀ g, (Value.slice aa na ca).ownBlock = some g → ¬ F g))
    (Hi : Hid (InvK k)) (HW : Hid (Below w.heap.size w W))
    (HP : Hid (∀ e w', OpenPost w (if confOk k.cf = true then some (fixK k, al ++ fixA k) else none) e w' → post e w')) :
    Code.wp Tryz.prog ((Tryz.f8.body.bind (seqAt 28)).getD .skip) (bodyPost Tryz.prog Tryz.f8 post) ⟨#[v0, v1, v2, v3, .pointer (some ⟨B, 0, none⟩), v5, v6, .pointer (some ⟨P, 0, none⟩), .slice aa na ca, v9, v10, v11, v12, v13, v14, v15, v16, v17, v18, v19, v20, v21, v22, v23, v24, v25, v26, v27, v28, v29, v30, v31, v32, v33, v34, v35, v36, v37, v38, v39, v40, v41, v42, v43, v44, v45, v46, v47, v48, v49, v50, v51, v52, v53, v54, v55, v56, v57, v58, v59, v60, v61, v62, v63, v64, v65, v66, v67, v68, v69, v70, v71, v72, v73, v74, v75, v76, v77, v78, v79, v80, v81, v82, v83, v84, v85, v86, v87, v88, v89, v90, v91, v92, v93, v94, v95, v96, v97, v98, v99, v100, v101, v102, v103, v104, v105, v106, v107, v108, v109, v110, v111, v112, v113, v114, v115, v116, v117, v118, v119, v120, v121, v122, v123, v124, v125, v126, v127, v128, v129, v130, v131, v132, v133, v134, v135, v136, v137, v138, v139, v140, v141, v142, v143, v144, v145, v146, v147, v148, v149, v150, v151, v152, v153, v154, v155, v156, v157, v158, v159, v160, v161, v162, v163, v164], []⟩ W := by
  conv => arg 2; whnf
  obtain ⟨ae, ce, hev, _, _⟩ := HK.out.es.slice
  subst hev
  have HL := Lib.hid (ref_last k.base k.bt (.slice ae k.es.length ce) k.es _ W HK.out.es Hi.out.ok)
  have hlr := lastT_range Hi.out
  have hbl : k.base ≤ k.base + (k.es.length : Int) := by omega
  have hur := upC_range Hi.out
  have hup : upC k = max k.base (min k.c (k.base + k.es.length)) := rfl
  have Hfx1 : Hid (k.t < lastT k.bt k.es → fixK k = { k with t := lastT k.bt k.es, v := 0, c := upC k }) := fun h => if_pos h
  have Hfx0 : Hid (¬ k.t < lastT k.bt k.es → fixK k = { k with c := upC k }) := fun h => if_neg h
  obtain ⟨ls, hls⟩ := hide (k.base + (k.es.length : Int))
  obtain ⟨lt, hlt⟩ := hide (lastT k.bt k.es)
  obtain ⟨up, hupe⟩ := hide (upC k)
  rw [hls.out, hlt.out] at HL
  rw [hlt.out] at hlr Hfx1 Hfx0
  rw [hupe.out] at hup hur Hfx1 Hfx0
  rw [hls.out] at hup hbl
  have HA1 : Hid (ls < k.c → up = ls) := by show _ → _; intro h; rw [hup]; omega
  have HA2 : Hid (¬ ls < k.c → k.c < k.base → up = k.base) := by show _ → _ → _; intro h h2; rw [hup]; omega
  have HA3 : Hid (¬ ls < k.c → ¬ k.c < k.base → up = k.c) := by show _ → _ → _; intro h h2; rw [hup]; omega
  have Hbl := Lib.hid hbl
  have Hlr := Lib.hid hlr
  have Hur := Lib.hid hur
  clear hup hlr hur hbl
  have d3 := cell_n HK.out.blk 3 (v := .int .i64 k.base) rfl
  have d4 := cell_n HK.out.blk 4 (v := .int .i64 k.bt) rfl
  have d5 := cell_n HK.out.blk 5 (v := .slice ae k.es.length ce) rfl
  go_wp2_with fail
  refine HL.out.mono ?_
  rintro e w1 ⟨rfl, hb1⟩
  have HK1 := Lib.hid (HK.out.below hb1)
  obtain ⟨V, hV⟩ := hide (w1.alloc (.cells #[.int .i64 k.t, .int .i64 k.v, .int .i64 k.c] 23))
  obtain ⟨H, hH⟩ := hide w1.heap.size
  have hbV : Below W.heap.size W V := by rw [← hV.out]; exact hb1.alloc hb1.size _
  have HKV := Lib.hid (HK.out.below hbV)
  have HHV : Hid (V.heap[H]? = some (.cells #[.int .i64 k.t, .int .i64 k.v, .int .i64 k.c] 23 (0, 0))) := by show _ = _; rw [← hV.out, ← hH.out]; exact hp_at _ _ rfl
  have HHP : Hid (H ≠ P) := by have := lt_of_block HK1.out.blk; rw [hH.out] at this; show H ≠ P; omega
  have HBV : Hid (V.heap[B]? = some (.cells zeroKept.toArray 43 (0, 0))) := (hbV.block B (lt_of_block HB.out)).trans HB.out
  have HAV := Lib.hid (own_below HA.out hbV)
  have HWV : Hid (Below w.heap.size w V) := HW.out.trans (hbV.mono HW.out.size)
  have HSV : Hid (S ≤ V.heap.size) := Nat.le_trans HS.out.2.2 hbV.size
  -- what goes on behind the stores
  have HGo : Hid (∀ (U : World) (k' : Kp), Chg (fun b => b = P) V U → fixK k = k' → U.heap[P]? = some (.cells (cellsK k' (.slice ae k.es.length ce) x y z cx cy cz) 43 (0, 0)) → k'.es = k.es → k'.sc = k.sc → k'.cf = k.cf →
      Hid (RefAt F U P k' (.slice ae k.es.length ce) x y z cx cy cz) ∧ Hid (U.heap[B]? = some (.cells zeroKept.toArray 43 (0, 0))) ∧ Hid (U.heap[H]? = some (.cells #[.int .i64 k.t, .int .i64 k.v, .int .i64 k.c] 23 (0, 0))) ∧
      Hid (U.ownsRow S 38 5 (.slice aa na ca) na (al.flatMap rowA)) ∧ Hid (B < S ∧ P < S ∧ S ≤ U.heap.size) ∧ Hid (Below w.heap.size w U) ∧
      Hid (∀ e w', OpenPost w (if confOk k'.cf = true then some (k', al ++ if ((k'.t == k.t) && ((k'.v == k.v) && (k'.c == k.c))) = true then [] else [⟨2, nLog, [], hardB k'.t k'.v k'.c, 0⟩, ⟨3, nLog, [], [], 0⟩]) else none) e w' → post e w')) := by
    show ∀ (U : World) (k' : Kp), _ → _ → _ → _ → _ → _ → _
    intro U k' hc hf hb h1 h2 h3
    refine ⟨HKV.out.block hc h1 h2 h3 hb, hc.at HBV.out HBP.out.1, hc.at HHV.out HHP.out, ?_, ⟨HS.out.1, HS.out.2.1, Nat.le_trans HSV.out hc.size⟩, ?_, ?_⟩
    · exact own_chg HAV.out hc (fun g hg e => by have := (HAV.out.lt g hg).1; have := HS.out; omega)
    · exact HWV.out.trans (hc.toBelow (fun b hb => by have := HwP.out; omega) HWV.out.size)
    · have h := HP.out
      have hfa : fixA k = if ((k'.t == k.t) && ((k'.v == k.v) && (k'.c == k.c))) = true then [] else [⟨2, nLog, [], hardB k'.t k'.v k'.c, 0⟩, ⟨3, nLog, [], [], 0⟩] := by unfold fixA; rw [hf]; rfl
      show ∀ e w', _ → _
      intro e w' hh
      refine h e w' ?_
      rw [hfa, hf, ← h3]
      exact hh
  have e0 := cell_n HK1.out.blk 0 (v := .int .i64 k.t) rfl
  have e1 := cell_n HK1.out.blk 1 (v := .int .i64 k.v) rfl
  have e2 := cell_n HK1.out.blk 2 (v := .int .i64 k.c) rfl
  clear hb1 hbV d3 d4 d5
  dsimp only
  go_upto_region 30 with fail
  rw [hV.out, hH.out]
  clear e0 e1 e2
  have d0 := cell_n HKV.out.blk 0 (v := .int .i64 k.t) rfl
  have d1 := cell_n HKV.out.blk 1 (v := .int .i64 k.v) rfl
  have d2 := cell_n HKV.out.blk 2 (v := .int .i64 k.c) rfl
  have d3 := cell_n HKV.out.blk 3 (v := .int .i64 k.base) rfl
  have f0 := free_n HKV.out.blk 0
  have f1 := free_n HKV.out.blk 1
  have f2 := free_n HKV.out.blk 2
  by_cases hc : k.t < lt
  · have q1 : decide (k.t < lt) = true := decide_eq_true hc
    have Hfx := Hfx1.out hc
    clear hc
    by_cases hc1 : ls < k.c
    · have q2 : decide (ls < k.c) = true := decide_eq_true hc1
      have q3 : decide (ls < k.base) = false := decide_eq_false (by have := Hbl.out; omega)
      have Hu := HA1.out hc1
      rw [Hu] at Hfx
      have g8 : Hid ((0 ≤ lt ∧ lt ≤ 1099511627775) ∧ (0 ≤ (0 : Int) ∧ (0 : Int) ≤ 1099511627775) ∧ (0 ≤ ls ∧ ls ≤ 1099511627775)) := by show _ ∧ _; have h1 := Hlr.out; have h2 := Hur.out; have h3 := Hi.out.t; have h4 := Hi.out.v; rw [Hu] at h2; exact ⟨by omega, by omega, h2⟩
      clear hc1 Hu
      obtain ⟨g1, g2, g3, g4, g5, g6, g7⟩ := HGo.out (((V.setCell ⟨P, 0, none⟩ (.int .i64 lt)).setCell ⟨P, 1, none⟩ (.int .i64 0)).setCell ⟨P, 2, none⟩ (.int .i64 ls)) ({ k with t := lt, v := 0, c := ls }) ((((Chg.refl _ _).trans (Chg.setCell (F := fun b => b = P) (a := ⟨P, 0, none⟩) _ rfl _)).trans (Chg.setCell (F := fun b => b = P) (a := ⟨P, 1, none⟩) _ rfl _)).trans (Chg.setCell (F := fun b => b = P) (a := ⟨P, 2, none⟩) _ rfl _)) Hfx (at_set (at_set (at_set (HKV.out.blk) _) _) _) rfl rfl rfl
      go_upto_if 131 with fail
      iterate 40 (first | done | exact ropen_fix F w (((V.setCell ⟨P, 0, none⟩ (.int .i64 lt)).setCell ⟨P, 1, none⟩ (.int .i64 0)).setCell ⟨P, 2, none⟩ (.int .i64 ls)) post S B P H ({ k with t := lt, v := 0, c := ls }) k.t k.v k.c (.slice ae k.es.length ce) x y z cx cy cz aa na ca al g1 g2 HBP g3 g4 Hna g5 HAN g8 g6 g7 | go_step)
    · have q2 : decide (ls < k.c) = false := decide_eq_false hc1
      by_cases hc2 : k.c < k.base
      · have q3 : decide (k.c < k.base) = true := decide_eq_true hc2
        have Hu := HA2.out (by omega) hc2
        rw [Hu] at Hfx
        have g8 : Hid ((0 ≤ lt ∧ lt ≤ 1099511627775) ∧ (0 ≤ (0 : Int) ∧ (0 : Int) ≤ 1099511627775) ∧ (0 ≤ k.base ∧ k.base ≤ 1099511627775)) := by show _ ∧ _; have h1 := Hlr.out; have h2 := Hur.out; have h3 := Hi.out.t; have h4 := Hi.out.v; rw [Hu] at h2; exact ⟨by omega, by omega, h2⟩
        clear hc1 hc2 Hu
        obtain ⟨g1, g2, g3, g4, g5, g6, g7⟩ := HGo.out (((V.setCell ⟨P, 0, none⟩ (.int .i64 lt)).setCell ⟨P, 1, none⟩ (.int .i64 0)).setCell ⟨P, 2, none⟩ (.int .i64 k.base)) ({ k with t := lt, v := 0, c := k.base }) ((((Chg.refl _ _).trans (Chg.setCell (F := fun b => b = P) (a := ⟨P, 0, none⟩) _ rfl _)).trans (Chg.setCell (F := fun b => b = P) (a := ⟨P, 1, none⟩) _ rfl _)).trans (Chg.setCell (F := fun b => b = P) (a := ⟨P, 2, none⟩) _ rfl _)) Hfx (at_set (at_set (at_set (HKV.out.blk) _) _) _) rfl rfl rfl
        go_upto_if 131 with fail
        iterate 40 (first | done | exact ropen_fix F w (((V.setCell ⟨P, 0, none⟩ (.int .i64 lt)).setCell ⟨P, 1, none⟩ (.int .i64 0)).setCell ⟨P, 2, none⟩ (.int .i64 k.base)) post S B P H ({ k with t := lt, v := 0, c := k.base }) k.t k.v k.c (.slice ae k.es.length ce) x y z cx cy cz aa na ca al g1 g2 HBP g3 g4 Hna g5 HAN g8 g6 g7 | go_step)
      · have q3 : decide (k.c < k.base) = false := decide_eq_false hc2
        have Hu := HA3.out (by omega) (by omega)
        rw [Hu] at Hfx
        have g8 : Hid ((0 ≤ lt ∧ lt ≤ 1099511627775) ∧ (0 ≤ (0 : Int) ∧ (0 : Int) ≤ 1099511627775) ∧ (0 ≤ k.c ∧ k.c ≤ 1099511627775)) := by show _ ∧ _; have h1 := Hlr.out; have h2 := Hur.out; have h3 := Hi.out.t; have h4 := Hi.out.v; rw [Hu] at h2; exact ⟨by omega, by omega, h2⟩
        clear hc1 hc2 Hu
        obtain ⟨g1, g2, g3, g4, g5, g6, g7⟩ := HGo.out ((V.setCell ⟨P, 0, none⟩ (.int .i64 lt)).setCell ⟨P, 1, none⟩ (.int .i64 0)) ({ k with t := lt, v := 0 }) (((Chg.refl _ _).trans (Chg.setCell (F := fun b => b = P) (a := ⟨P, 0, none⟩) _ rfl _)).trans (Chg.setCell (F := fun b => b = P) (a := ⟨P, 1, none⟩) _ rfl _)) Hfx (at_set (at_set (HKV.out.blk) _) _) rfl rfl rfl
        go_upto_if 131 with fail
        iterate 40 (first | done | exact ropen_fix F w ((V.setCell ⟨P, 0, none⟩ (.int .i64 lt)).setCell ⟨P, 1, none⟩ (.int .i64 0)) post S B P H ({ k with t := lt, v := 0 }) k.t k.v k.c (.slice ae k.es.length ce) x y z cx cy cz aa na ca al g1 g2 HBP g3 g4 Hna g5 HAN g8 g6 g7 | go_step)
  · have q1 : decide (k.t < lt) = false := decide_eq_false hc
    have Hfx := Hfx0.out (by omega)
    clear hc
    by_cases hc1 : ls < k.c
    · have q2 : decide (ls < k.c) = true := decide_eq_true hc1
      have q3 : decide (ls < k.base) = false := decide_eq_false (by have := Hbl.out; omega)
      have Hu := HA1.out hc1
      rw [Hu] at Hfx
      have g8 : Hid ((0 ≤ k.t ∧ k.t ≤ 1099511627775) ∧ (0 ≤ k.v ∧ k.v ≤ 1099511627775) ∧ (0 ≤ ls ∧ ls ≤ 1099511627775)) := by show _ ∧ _; have h1 := Hlr.out; have h2 := Hur.out; have h3 := Hi.out.t; have h4 := Hi.out.v; rw [Hu] at h2; exact ⟨by omega, by omega, h2⟩
      clear hc1 Hu
      obtain ⟨g1, g2, g3, g4, g5, g6, g7⟩ := HGo.out (V.setCell ⟨P, 2, none⟩ (.int .i64 ls)) ({ k with c := ls }) ((Chg.refl _ _).trans (Chg.setCell (F := fun b => b = P) (a := ⟨P, 2, none⟩) _ rfl _)) Hfx (at_set (HKV.out.blk) _) rfl rfl rfl
      go_upto_if 131 with fail
      iterate 40 (first | done | exact ropen_fix F w (V.setCell ⟨P, 2, none⟩ (.int .i64 ls)) post S B P H ({ k with c := ls }) k.t k.v k.c (.slice ae k.es.length ce) x y z cx cy cz aa na ca al g1 g2 HBP g3 g4 Hna g5 HAN g8 g6 g7 | go_step)
    · have q2 : decide (ls < k.c) = false := decide_eq_false hc1
      by_cases hc2 : k.c < k.base
      · have q3 : decide (k.c < k.base) = true := decide_eq_true hc2
        have Hu := HA2.out (by omega) hc2
        rw [Hu] at Hfx
        have g8 : Hid ((0 ≤ k.t ∧ k.t ≤ 1099511627775) ∧ (0 ≤ k.v ∧ k.v ≤ 1099511627775) ∧ (0 ≤ k.base ∧ k.base ≤ 1099511627775)) := by show _ ∧ _; have h1 := Hlr.out; have h2 := Hur.out; have h3 := Hi.out.t; have h4 := Hi.out.v; rw [Hu] at h2; exact ⟨by omega, by omega, h2⟩
        clear hc1 hc2 Hu
        obtain ⟨g1, g2, g3, g4, g5, g6, g7⟩ := HGo.out (V.setCell ⟨P, 2, none⟩ (.int .i64 k.base)) ({ k with c := k.base }) ((Chg.refl _ _).trans (Chg.setCell (F := fun b => b = P) (a := ⟨P, 2, none⟩) _ rfl _)) Hfx (at_set (HKV.out.blk) _) rfl rfl rfl
        go_upto_if 131 with fail
        iterate 40 (first | done | exact ropen_fix F w (V.setCell ⟨P, 2, none⟩ (.int .i64 k.base)) post S B P H ({ k with c := k.base }) k.t k.v k.c (.slice ae k.es.length ce) x y z cx cy cz aa na ca al g1 g2 HBP g3 g4 Hna g5 HAN g8 g6 g7 | go_step)
      · have q3 : decide (k.c < k.base) = false := decide_eq_false hc2
        have Hu := HA3.out (by omega) (by omega)
        rw [Hu] at Hfx
        have g8 : Hid ((0 ≤ k.t ∧ k.t ≤ 1099511627775) ∧ (0 ≤ k.v ∧ k.v ≤ 1099511627775) ∧ (0 ≤ k.c ∧ k.c ≤ 1099511627775)) := by show _ ∧ _; have h1 := Hlr.out; have h2 := Hur.out; have h3 := Hi.out.t; have h4 := Hi.out.v; rw [Hu] at h2; exact ⟨by omega, by omega, h2⟩
        clear hc1 hc2 Hu
        obtain ⟨g1, g2, g3, g4, g5, g6, g7⟩ := HGo.out (V) (k) (Chg.refl _ _) Hfx (HKV.out.blk) rfl rfl rfl
        go_upto_if 131 with fail
        iterate 40 (first | done | exact ropen_fix F w (V) post S B P H (k) k.t k.v k.c (.slice ae k.es.length ce) x y z cx cy cz aa na ca al g1 g2 HBP g3 g4 Hna g5 HAN g8 g6 g7 | go_step)
end Go.Proofs.YtjlhlmnoomiblaaGreat
