/-
  What files say, read by the program (package wal): the end of Open: what is put right, and what is handed back.
-/
import Derived.Test.YtjlhlmnoomiblaaZ30
import Derived.Test.YtjlhlmnoomiblaaZ31
import Derived.Deep.CutRange
import Derived.BigRegion
import Derived.Deep.MidRow
import Derived.Laws.Rows
namespace Go.Proofs.Ytjlhlmnoomiblaa
open Go.RowKit Wm Mm Lg Fl
set_option linter.unusedVariables false
set_option linter.unusedSimpArgs false

abbrev zeroKept : List Value := [.int .i64 0, .int .i64 0, .int .i64 0, .int .i64 0, .int .i64 0, .slice none 0 0, .int .i64 0, .int .i64 0, .slice none 0 0, .slice none 0 0, .slice none 0 0, str [], .slice none 0 0, .slice none 0 0, .slice none 0 0]
theorem setCells_eqW (b : Nat) : ∀ (vs : List Value) (w : World) (o : Nat), w.setCells b o vs = setFrom w b o vs
  | [], _, _ => rfl
  | v :: r, w, o => setCells_eqW b r (w.setCell ⟨b, o, none⟩ v) (o + 1)
theorem there_ofW {w : World} {b : Nat} {xs : Array Value} {t : TypeId} (h : w.heap[b]? = some (.cells xs t (0, 0))) : w.there b 0 xs.size := fun j hj => by
  rw [Nat.zero_add]
  exact ⟨by rw [cell_n h j (v := xs[j]) (by simp [hj])]; rfl, free_n h j⟩
/-- how Open ends -/
def OpenPost (w : World) (o : Option (Kp × List ActP)) (e : Ending) (w' : World) : Prop :=
  Below w.heap.size w w' ∧ match o with
  | none => e = .returned (.tuple #[.agg zeroKept.toArray, .slice none 0 0, .int .i64 16])
  | some (k, al) => ∃ ev x y z cx cy cz av, e = .returned (.tuple #[.agg (cellsK k ev x y z cx cy cz), av, .int .i64 0]) ∧ Ents (fun _ => True) w' ev k.es ∧ Config3 w' x y z k.sc ∧ Config3 w' cx cy cz k.cf ∧ Acs (fun _ => True) w' av al
/-- the same, with the entries in new blocks -/
def OpenPostN (w : World) (o : Option (Kp × List ActP)) (e : Ending) (w' : World) : Prop :=
  Below w.heap.size w w' ∧ match o with
  | none => e = .returned (.tuple #[.agg zeroKept.toArray, .slice none 0 0, .int .i64 16])
  | some (k, al) => ∃ ev x y z cx cy cz av, e = .returned (.tuple #[.agg (cellsK k ev x y z cx cy cz), av, .int .i64 0]) ∧ Ents (fun b => w.heap.size ≤ b) w' ev k.es ∧ Config3 w' x y z k.sc ∧ Config3 w' cx cy cz k.cf ∧ Acs (fun _ => True) w' av al
theorem OpenPostN.open {w w' : World} {o : Option (Kp × List ActP)} {e : Ending} (h : OpenPostN w o e w') : OpenPost w o e w' := by
  obtain ⟨hb, h⟩ := h
  cases o with
  | none => exact ⟨hb, h⟩
  | some p =>
    obtain ⟨ev, x, y, z, cx, cy, cz, av, he, h1, h2, h3, h4⟩ := h
    exact ⟨hb, ev, x, y, z, cx, cy, cz, av, he, h1.weak (Plain.good _) (fun _ _ _ => trivial), h2, h3, h4⟩
theorem results_three {P : Program} {fn : Func} {p q r : Tmp} {ty : TypeId} (h : fn.results = #[.cell p ty, .tmp q, .tmp r]) (tmps : Array Value) (w : World) (g : Nat) (t : TypeId) (cs : Array Value) (fr : Nat × Nat) (d : TypeDesc)
    (hp : tmps.getD p undef = .pointer (some ⟨g, 0, none⟩)) (hg : w.heap[g]? = some (.cells cs t fr))
    (hu : P.underlying ty = some d) (hd : (match d with | .struct _ | .array _ _ => true | _ => false) = true) (hi : (P.info? ty).map (·.size) = some cs.size) :
    (results fn tmps).run P w = .ok (.tuple #[.agg cs, tmps.getD q undef, tmps.getD r undef]) w := by
  have hp' : tmps[p]?.getD undef = .pointer (some ⟨g, 0, none⟩) := by simpa using hp
  simp [results, h, hp', asAddr, run_loadVar_row w g t ty cs fr d hg hu hd hi]
theorem size_kept : (Try.prog.info? 33).map (·.size) = some 15 := by kernel_rfl
set_option maxHeartbeats 4000000 in
set_option maxRecDepth 100000 in
theorem open_conf_end {v0 v1 v2 v3 v5 v6 v9 v10 v11 v12 v13 v14 v15 v16 v17 v18 v19 v20 v21 v22 v23 v24 v25 v26 v27 v28 v29 v30 v31 v32 v33 v34 v35 v36 v37 v38 v39 v40 v41 v42 v43 v44 v45 v46 v47 v48 v49 v50 v51 v52 v53 v54 v55 v56 v57 v58 v59 v60 v61 v62 v63 v64 v65 v66 v67 v68 v69 v70 v71 v72 v73 v74 v75 v76 v77 v78 v79 v80 v81 v82 v83 v84 v85 v86 v87 v88 v89 v90 v91 v92 v93 v94 v95 v96 v97 v98 v99 v100 v101 v102 v103 v104 v105 v106 v107 v108 v109 v110 v111 v112 v113 v114 v115 v116 v117 v118 v119 v120 v121 v122 v123 v124 v125 v126 v127 v128 v129 v130 v131 v132 v133 v134 : Value} (N : Nat → Prop) (w W : World) (post : Ending → World → Prop) (T B P : Nat) (k : Kp) (ev x y z cx cy cz : Value) (aa : Option Addr) (na ca : Nat) (al : List ActP)
    (HK : Hid (KeptAt N T W P k ev x y z cx cy cz)) (HB : Hid (W.heap[B]? = some (.cells zeroKept.toArray 33 (0, 0)))) (HBP : Hid (B ≠ P ∧ B < T ∧ w.heap.size ≤ B ∧ ¬ N B)) (HA : Hid (Acs (fun b => b ≠ B) W (.slice aa na ca) al))
    (HW : Hid (Below w.heap.size w W))
    (HP : Hid (∀ e w', OpenPostN w (if confOk k.cf = true then some (k, al) else none) e w' → post e w')) :
    Code.wp Try.prog ((Try.f9.body.bind (seqAt 28)).getD .skip) (bodyPost Try.prog Try.f9 post) ⟨#[v0, v1, v2, v3, .pointer (some ⟨B, 0, none⟩), v5, v6, .pointer (some ⟨P, 0, none⟩), .slice aa na ca, v9, v10, v11, v12, v13, v14, v15, v16, v17, v18, v19, v20, v21, v22, v23, v24, v25, v26, v27, v28, v29, v30, v31, v32, v33, v34, v35, v36, v37, v38, v39, v40, v41, v42, v43, v44, v45, v46, v47, v48, v49, v50, v51, v52, v53, v54, v55, v56, v57, v58, v59, v60, v61, v62, v63, v64, v65, v66, v67, v68, v69, v70, v71, v72, v73, v74, v75, v76, v77, v78, v79, v80, v81, v82, v83, v84, v85, v86, v87, v88, v89, v90, v91, v92, v93, v94, v95, v96, v97, v98, v99, v100, v101, v102, v103, v104, v105, v106, v107, v108, v109, v110, v111, v112, v113, v114, v115, v116, v117, v118, v119, v120, v121, v122, v123, v124, v125, v126, v127, v128, v129, v130, v131, v132, v133, v134], []⟩ W := by
  conv => arg 2; whnf
  obtain ⟨ae, ce, hev, _, _⟩ := (OwnE.ents HK.out.own).slice
  obtain ⟨ao1, cp1, hx, _⟩ := len_of_Ints HK.out.sc.v.ints
  obtain ⟨ao2, cp2, hy, _⟩ := len_of_Ints HK.out.sc.n.ints
  obtain ⟨ao3, cp3, hz, _⟩ := len_of_Ints HK.out.sc.l.ints
  obtain ⟨ao4, cp4, hcx, _⟩ := len_of_Ints HK.out.cf.v.ints
  obtain ⟨ao5, cp5, hcy, _⟩ := len_of_Ints HK.out.cf.n.ints
  obtain ⟨ao6, cp6, hcz, _⟩ := len_of_Ints HK.out.cf.l.ints
  subst hev hx hy hz hcx hcy hcz
  have hV := config_valid _ _ _ k.cf W HK.out.cf.conf
  have HS : Hid (∀ w1, Below W.heap.size W w1 → Calls Try.prog 20 #[.agg #[.slice ao4 k.cf.v.length cp4, .slice ao5 k.cf.n.length cp5, .slice ao6 k.cf.l.length cp6], .agg #[.slice none 0 0, .slice none 0 0, .slice none 0 0]] w1 fun e w' => e = .returned (.bool (sameConf k.cf noC)) ∧ Below w1.heap.size w1 w') := fun w1 hb => config_same _ _ _ _ _ _ k.cf noC w1 (HK.out.cf.conf.mono hb) (Config3.nil w1)
  have HV := Lib.hid hV
  have HC : Hid (confOk k.cf = (validB k.cf || sameConf k.cf noC)) := rfl
  obtain ⟨q1, hq1⟩ := hide (validB k.cf)
  obtain ⟨q2, hq2⟩ := hide (sameConf k.cf noC)
  rw [hq1.out] at HV
  rw [hq2.out] at HS
  rw [hq1.out, hq2.out] at HC
  rw [HC.out] at HP
  have HKx : Hid (∀ w1, Below W.heap.size W w1 → KeptAt N T w1 P k (.slice ae k.es.length ce) (.slice ao1 k.sc.v.length cp1) (.slice ao2 k.sc.n.length cp2) (.slice ao3 k.sc.l.length cp3) (.slice ao4 k.cf.v.length cp4) (.slice ao5 k.cf.n.length cp5) (.slice ao6 k.cf.l.length cp6) ∧ w1.heap[B]? = some (.cells zeroKept.toArray 33 (0, 0)) ∧ Below w.heap.size w w1) := fun w1 hb => ⟨HK.out.below hb, (hb.block B (lt_of_block HB.out)).trans HB.out, HW.out.trans (hb.mono HW.out.size)⟩
  -- the two ways out
  have HNo : Hid (∀ w1, Below W.heap.size W w1 → (q1 || q2) = false → post (.returned (.tuple #[.agg zeroKept.toArray, .slice none 0 0, .int .i64 16])) (setAll w1 B zeroKept)) := by
    show ∀ w1, _ → _ → _
    intro w1 hb hq
    refine HP.out _ _ ?_
    rw [hq]
    exact ⟨setAll_below (HKx.out w1 hb).2.2 HBP.out.2.2.1 _, rfl⟩
  have HYes : Hid (∀ w1, Below W.heap.size W w1 → (q1 || q2) = true → post (.returned (.tuple #[.agg (cellsK k (.slice ae k.es.length ce) (.slice ao1 k.sc.v.length cp1) (.slice ao2 k.sc.n.length cp2) (.slice ao3 k.sc.l.length cp3) (.slice ao4 k.cf.v.length cp4) (.slice ao5 k.cf.n.length cp5) (.slice ao6 k.cf.l.length cp6)), .slice aa na ca, .int .i64 0])) (setAll w1 B (cellsK k (.slice ae k.es.length ce) (.slice ao1 k.sc.v.length cp1) (.slice ao2 k.sc.n.length cp2) (.slice ao3 k.sc.l.length cp3) (.slice ao4 k.cf.v.length cp4) (.slice ao5 k.cf.n.length cp5) (.slice ao6 k.cf.l.length cp6)).toList)) := by
    show ∀ w1, _ → _ → _
    intro w1 hb hq
    refine HP.out _ _ ?_
    rw [hq]
    obtain ⟨h1, h2, h3⟩ := HKx.out w1 hb
    have hc : Chg (fun b => b = B) w1 (setAll w1 B (cellsK k (.slice ae k.es.length ce) (.slice ao1 k.sc.v.length cp1) (.slice ao2 k.sc.n.length cp2) (.slice ao3 k.sc.l.length cp3) (.slice ao4 k.cf.v.length cp4) (.slice ao5 k.cf.n.length cp5) (.slice ao6 k.cf.l.length cp6)).toList) := chg_from B _ w1 0
    refine ⟨setAll_below h3 HBP.out.2.2.1 _, _, _, _, _, _, _, _, _, rfl, ?_, ?_, ?_, ?_⟩
    · have h4 := ((OwnE.ents h1.own).frame (Plain.good _) (hc.agree (fun b hb e => by have := HBP.out.2.1; omega)))
      exact h4.weak (Plain.good _) (fun b hb _ => by have h5 : T ≤ b := hb; have := HBP.out; omega)
    · exact (h1.sc.frame (hc.agree (fun b hb e => HBP.out.2.2.2 (e ▸ hb.2)))).conf
    · exact (h1.cf.frame (hc.agree (fun b hb e => HBP.out.2.2.2 (e ▸ hb.2)))).conf
    · exact (HA.out.frame (Plain.good _) ((Agree.below hb).trans (hc.agree (fun b hb e => hb e)))).weak (Plain.good _) (fun _ _ _ => trivial)
  have d12 := cell_n HK.out.blk 12 (v := .slice ao4 k.cf.v.length cp4) rfl
  have d13 := cell_n HK.out.blk 13 (v := .slice ao5 k.cf.n.length cp5) rfl
  have d14 := cell_n HK.out.blk 14 (v := .slice ao6 k.cf.l.length cp6) rfl
  go_wp2_with fail
  refine HV.out.mono ?_
  rintro e w1 ⟨rfl, hb1⟩
  have H1 := Lib.hid hb1
  have hk1 := (HKx.out w1 hb1).1.blk
  clear hb1 d12 d13 d14
  cases q1 with
  | true =>
    clear hk1
    have h9 := setAll_at (HKx.out w1 H1.out).2.1 (cellsK k (.slice ae k.es.length ce) (.slice ao1 k.sc.v.length cp1) (.slice ao2 k.sc.n.length cp2) (.slice ao3 k.sc.l.length cp3) (.slice ao4 k.cf.v.length cp4) (.slice ao5 k.cf.n.length cp5) (.slice ao6 k.cf.l.length cp6)).toList rfl
    have H9 := Lib.hid h9
    have Hth : Hid (w1.there B 0 15) := there_ofW (HKx.out w1 H1.out).2.1
    have Hbl := Lib.hid (HKx.out w1 H1.out).1.blk
    have Hpost := Lib.hid (HYes.out w1 H1.out rfl)
    clear h9
    go_upto_region 30 with fail
    refine wp_region_lit ?_
    refine wpList_load_row rfl 33 (.tmp 7) rfl P rfl 33 (cellsK k (.slice ae k.es.length ce) (.slice ao1 k.sc.v.length cp1) (.slice ao2 k.sc.n.length cp2) (.slice ao3 k.sc.l.length cp3) (.slice ao4 k.cf.v.length cp4) (.slice ao5 k.cf.n.length cp5) (.slice ao6 k.cf.l.length cp6)) (0, 0) _ Hbl.out Try.underlying33 rfl size_kept ?_
    iterate 3 go_step
    refine wpList_store_mid rfl 33 (.tmp 4) (.tmp 133) rfl B 0 (cellsK k (.slice ae k.es.length ce) (.slice ao1 k.sc.v.length cp1) (.slice ao2 k.sc.n.length cp2) (.slice ao3 k.sc.l.length cp3) (.slice ao4 k.cf.v.length cp4) (.slice ao5 k.cf.n.length cp5) (.slice ao6 k.cf.l.length cp6)) rfl rfl Hth.out size_kept (by simp [Value.oneCell']) ?_
    rw [setCells_eqW]
    show wpList _ _ _ _ _ (setAll w1 B (cellsK k (.slice ae k.es.length ce) (.slice ao1 k.sc.v.length cp1) (.slice ao2 k.sc.n.length cp2) (.slice ao3 k.sc.l.length cp3) (.slice ao4 k.cf.v.length cp4) (.slice ao5 k.cf.n.length cp5) (.slice ao6 k.cf.l.length cp6)).toList)
    generalize setAll w1 B (cellsK k (.slice ae k.es.length ce) (.slice ao1 k.sc.v.length cp1) (.slice ao2 k.sc.n.length cp2) (.slice ao3 k.sc.l.length cp3) (.slice ao4 k.cf.v.length cp4) (.slice ao5 k.cf.n.length cp5) (.slice ao6 k.cf.l.length cp6)).toList = W9 at H9 Hpost ⊢
    go_wp2_with fail
    refine bodyPost_ret (results_three rfl _ W9 B 33 (cellsK k (.slice ae k.es.length ce) (.slice ao1 k.sc.v.length cp1) (.slice ao2 k.sc.n.length cp2) (.slice ao3 k.sc.l.length cp3) (.slice ao4 k.cf.v.length cp4) (.slice ao5 k.cf.n.length cp5) (.slice ao6 k.cf.l.length cp6)) (0, 0) _ rfl H9.out Try.underlying33 rfl size_kept) rfl ?_
    exact Hpost.out
  | false =>
    have d12 := cell_n hk1 12 (v := .slice ao4 k.cf.v.length cp4) rfl
    have d13 := cell_n hk1 13 (v := .slice ao5 k.cf.n.length cp5) rfl
    have d14 := cell_n hk1 14 (v := .slice ao6 k.cf.l.length cp6) rfl
    clear hk1
    go_wp2_with fail
    refine (HS.out w1 H1.out).mono ?_
    rintro e w2 ⟨rfl, hb2⟩
    have H2 := Lib.hid (H1.out.trans (hb2.mono H1.out.size))
    clear hb2 d12 d13 d14
    cases q2 with
    | true =>
      have h9 := setAll_at (HKx.out w2 H2.out).2.1 (cellsK k (.slice ae k.es.length ce) (.slice ao1 k.sc.v.length cp1) (.slice ao2 k.sc.n.length cp2) (.slice ao3 k.sc.l.length cp3) (.slice ao4 k.cf.v.length cp4) (.slice ao5 k.cf.n.length cp5) (.slice ao6 k.cf.l.length cp6)).toList rfl
      have H9 := Lib.hid h9
      have Hth : Hid (w2.there B 0 15) := there_ofW (HKx.out w2 H2.out).2.1
      have Hbl := Lib.hid (HKx.out w2 H2.out).1.blk
      have Hpost := Lib.hid (HYes.out w2 H2.out rfl)
      clear h9
      go_upto_region 30 with fail
      refine wp_region_lit ?_
      refine wpList_load_row rfl 33 (.tmp 7) rfl P rfl 33 (cellsK k (.slice ae k.es.length ce) (.slice ao1 k.sc.v.length cp1) (.slice ao2 k.sc.n.length cp2) (.slice ao3 k.sc.l.length cp3) (.slice ao4 k.cf.v.length cp4) (.slice ao5 k.cf.n.length cp5) (.slice ao6 k.cf.l.length cp6)) (0, 0) _ Hbl.out Try.underlying33 rfl size_kept ?_
      iterate 3 go_step
      refine wpList_store_mid rfl 33 (.tmp 4) (.tmp 133) rfl B 0 (cellsK k (.slice ae k.es.length ce) (.slice ao1 k.sc.v.length cp1) (.slice ao2 k.sc.n.length cp2) (.slice ao3 k.sc.l.length cp3) (.slice ao4 k.cf.v.length cp4) (.slice ao5 k.cf.n.length cp5) (.slice ao6 k.cf.l.length cp6)) rfl rfl Hth.out size_kept (by simp [Value.oneCell']) ?_
      rw [setCells_eqW]
      show wpList _ _ _ _ _ (setAll w2 B (cellsK k (.slice ae k.es.length ce) (.slice ao1 k.sc.v.length cp1) (.slice ao2 k.sc.n.length cp2) (.slice ao3 k.sc.l.length cp3) (.slice ao4 k.cf.v.length cp4) (.slice ao5 k.cf.n.length cp5) (.slice ao6 k.cf.l.length cp6)).toList)
      generalize setAll w2 B (cellsK k (.slice ae k.es.length ce) (.slice ao1 k.sc.v.length cp1) (.slice ao2 k.sc.n.length cp2) (.slice ao3 k.sc.l.length cp3) (.slice ao4 k.cf.v.length cp4) (.slice ao5 k.cf.n.length cp5) (.slice ao6 k.cf.l.length cp6)).toList = W9 at H9 Hpost ⊢
      go_wp2_with fail
      refine bodyPost_ret (results_three rfl _ W9 B 33 (cellsK k (.slice ae k.es.length ce) (.slice ao1 k.sc.v.length cp1) (.slice ao2 k.sc.n.length cp2) (.slice ao3 k.sc.l.length cp3) (.slice ao4 k.cf.v.length cp4) (.slice ao5 k.cf.n.length cp5) (.slice ao6 k.cf.l.length cp6)) (0, 0) _ rfl H9.out Try.underlying33 rfl size_kept) rfl ?_
      exact Hpost.out
    | false =>
      have h9 := setAll_at (HKx.out w2 H2.out).2.1 zeroKept rfl
      have H9 := Lib.hid h9
      have Hth : Hid (w2.there B 0 15) := there_ofW (HKx.out w2 H2.out).2.1
      have Hpost := Lib.hid (HNo.out w2 H2.out rfl)
      clear h9
      go_upto_region 29 with fail
      refine wp_region_lit ?_
      iterate 3 go_step
      refine wpList_store_mid rfl 33 (.tmp 4) (.tmp 132) rfl B 0 zeroKept.toArray rfl rfl Hth.out size_kept (by simp [Value.oneCell']) ?_
      rw [setCells_eqW]
      show wpList _ _ _ _ _ (setAll w2 B zeroKept)
      generalize setAll w2 B zeroKept = W9 at H9 Hpost ⊢
      go_wp2_with fail
      refine bodyPost_ret (results_three rfl _ W9 B 33 zeroKept.toArray (0, 0) _ rfl H9.out Try.underlying33 rfl size_kept) rfl ?_
      exact Hpost.out
theorem info_act : (Try.prog.info? 45).map (fun i => (i.zero, i.size, i.bytes)) = some (some (.agg #[.int .i64 0, .string ByteArray.empty, .string ByteArray.empty, .string ByteArray.empty, .int .i64 0]), 5, 64) := by kernel_rfl
theorem acts_one (l : List ActP) : ∀ u ∈ (l.flatMap rowA).toArray.toList, u.oneCell' = true := by
  intro u hu
  rw [List.toList_toArray] at hu
  obtain ⟨y, _, hy⟩ := List.mem_flatMap.1 hu
  exact rowA_one y u hy
theorem KeptAt.grown {N : Nat → Prop} {T P S : Nat} {k : Kp} {ev x y z cx cy cz av : Value} {n : Nat} {xs : List Value} {W A V : World} (h : KeptAt N T W P k ev x y z cx cy cz) (hA : Below W.heap.size W A) (ha : A.ownsRow S 45 5 av n xs) (hg : A.grownBy V av.ownBlock) (hS : P < S) (hN : ∀ g, av.ownBlock = some g → ¬ N g ∨ T ≤ g) : KeptAt N T V P k ev x y z cx cy cz := by
  have h2 := h.below hA
  have hag : Agree (fun b => b < T ∧ N b) A V := Agree.grown hg (fun b hb hlt e => by
    rcases hN b e.symm with h3 | h3
    · exact h3 hb.2
    · omega)
  refine ⟨(hg.block P (lt_of_block h2.blk) (fun e => ?_)).trans h2.blk, h2.own.kept hg (own_ne h2.own ha (by decide)), h2.sc.frame hag, h2.cf.frame hag, h2.pt, Nat.le_trans h2.ts hg.size, h2.np, h2.nt⟩
  have := (ha.lt P e.symm).1
  omega
set_option maxHeartbeats 4000000 in
set_option maxRecDepth 100000 in
theorem open_fix {v0 v1 v2 v3 v5 v6 v9 v10 v11 v12 v13 v14 v15 v16 v17 v19 v20 v21 v22 v23 v24 v25 v26 v27 v28 v29 v30 v31 v32 v33 v34 v35 v36 v37 v38 v39 v40 v41 v42 v43 v44 v45 v46 v47 v48 v49 v50 v51 v52 v53 v54 v55 v56 v57 v58 v59 v60 v61 v62 v63 v64 v65 v66 v67 v68 v69 v70 v71 v72 v73 v74 v75 v76 v77 v78 v79 v80 v81 v82 v83 v84 v85 v86 v87 v88 v89 v90 v91 v92 v93 v94 v95 v96 v97 v98 v99 v100 v101 v102 v103 v104 v105 v106 v107 v108 v109 v110 v111 v112 v113 v114 v115 v116 v117 v118 v119 v120 v121 v122 v123 v124 v125 v126 v127 v128 v129 v130 v131 v132 v133 v134 : Value} (N : Nat → Prop) (w W : World) (post : Ending → World → Prop) (S T B P H : Nat) (k : Kp) (th vh ch : Int) (ev x y z cx cy cz : Value) (aa : Option Addr) (na ca : Nat) (al : List ActP)
    (HK : Hid (KeptAt N T W P k ev x y z cx cy cz)) (HB : Hid (W.heap[B]? = some (.cells zeroKept.toArray 33 (0, 0)))) (HBP : Hid (B ≠ P ∧ B < T ∧ w.heap.size ≤ B ∧ ¬ N B))
    (HH : Hid (W.heap[H]? = some (.cells #[.int .i64 th, .int .i64 vh, .int .i64 ch] 26 (0, 0))))
    (HA : Hid (W.ownsRow S 45 5 (.slice aa na ca) na (al.flatMap rowA))) (Hna : Hid (na = al.length ∧ na ≤ 8)) (HS : Hid (B < S ∧ P < S ∧ S ≤ W.heap.size)) (HAN : Hid (∀ g, (Value.slice aa na ca).ownBlock = some g → ¬ N g ∨ T ≤ g))
    (Hi : Hid ((0 ≤ k.t ∧ k.t ≤ 1099511627775) ∧ (0 ≤ k.v ∧ k.v ≤ 1099511627775) ∧ (0 ≤ k.c ∧ k.c ≤ 1099511627775)))
    (HW : Hid (Below w.heap.size w W))
    (HP : Hid (∀ e w', OpenPostN w (if confOk k.cf = true then some (k, al ++ if ((k.t == th) && ((k.v == vh) && (k.c == ch))) = true then [] else [⟨2, nLog, [], hardB k.t k.v k.c, 0⟩, ⟨3, nLog, [], [], 0⟩]) else none) e w' → post e w')) :
    Code.wp Try.prog ((Try.f9.body.bind (seqAt 26)).getD .skip) (bodyPost Try.prog Try.f9 post) ⟨#[v0, v1, v2, v3, .pointer (some ⟨B, 0, none⟩), v5, v6, .pointer (some ⟨P, 0, none⟩), .slice aa na ca, v9, v10, v11, v12, v13, v14, v15, v16, v17, .pointer (some ⟨H, 0, none⟩), v19, v20, v21, v22, v23, v24, v25, v26, v27, v28, v29, v30, v31, v32, v33, v34, v35, v36, v37, v38, v39, v40, v41, v42, v43, v44, v45, v46, v47, v48, v49, v50, v51, v52, v53, v54, v55, v56, v57, v58, v59, v60, v61, v62, v63, v64, v65, v66, v67, v68, v69, v70, v71, v72, v73, v74, v75, v76, v77, v78, v79, v80, v81, v82, v83, v84, v85, v86, v87, v88, v89, v90, v91, v92, v93, v94, v95, v96, v97, v98, v99, v100, v101, v102, v103, v104, v105, v106, v107, v108, v109, v110, v111, v112, v113, v114, v115, v116, v117, v118, v119, v120, v121, v122, v123, v124, v125, v126, v127, v128, v129, v130, v131, v132, v133, v134], []⟩ W := by
  conv => arg 2; whnf
  have d0 := cell_n HK.out.blk 0 (v := .int .i64 k.t) rfl
  have d1 := cell_n HK.out.blk 1 (v := .int .i64 k.v) rfl
  have d2 := cell_n HK.out.blk 2 (v := .int .i64 k.c) rfl
  have h0 := cell_n HH.out 0 (v := .int .i64 th) rfl
  have h1 := cell_n HH.out 1 (v := .int .i64 vh) rfl
  have h2 := cell_n HH.out 2 (v := .int .i64 ch) rfl
  have HR : Hid (∀ w1, Calls Try.prog 12 #[.agg #[.int .i64 k.t, .int .i64 k.v, .int .i64 k.c]] w1 fun e w' => e = .returned (str (hardB k.t k.v k.c)) ∧ Below w1.heap.size w1 w') := by
    show ∀ w1, _
    intro w1
    obtain ⟨n1, e1⟩ : ∃ n : Nat, k.t = n := ⟨k.t.toNat, by have := Hi.out.1; omega⟩
    obtain ⟨n2, e2⟩ : ∃ n : Nat, k.v = n := ⟨k.v.toNat, by have := Hi.out.2.1; omega⟩
    obtain ⟨n3, e3⟩ : ∃ n : Nat, k.c = n := ⟨k.c.toNat, by have := Hi.out.2.2; omega⟩
    have hi := Hi.out
    rw [e1, e2, e3] at hi ⊢
    exact hard_wal n1 n2 n3 w1 (by omega) (by omega) (by omega)
  have HAs : Hid (∀ V v n l, V.ownsRow S 45 5 v n (l.flatMap rowA) → n = l.length → Acs (fun b => b ≠ B) V v l) := by
    show ∀ V v n l, _ → _ → _
    rintro V v n l h rfl
    exact Sl.own rowA rowA_len h (fun _ _ => rfl) (fun g _ hg _ => by have := HS.out; omega)
  cases q0 : (k.t == th) <;> cases q1 : (k.v == vh) <;> cases q2 : (k.c == ch)
  case true.true.true =>
    rw [q0, q1, q2] at HP
    have HP1 : Hid (∀ e w', OpenPostN w (if confOk k.cf = true then some (k, al) else none) e w' → post e w') := by
      have h := HP.out
      have e0 : (if (true && (true && true)) = true then ([] : List ActP) else [⟨2, nLog, [], hardB k.t k.v k.c, 0⟩, ⟨3, nLog, [], [], 0⟩]) = [] := rfl
      rw [e0, List.append_nil] at h
      exact h
    have HA1 := Lib.hid (HAs.out W _ na al HA.out Hna.out.1)
    go_upto_if 112 with (fail)
    clear d0 d1 d2 h0 h1 h2 q0 q1 q2
    iterate 12 (first | done | exact open_conf_end N w W post T B P k ev x y z cx cy cz aa na ca al HK HB HBP HA1 HW HP1 | go_step)
  all_goals
    rw [q0, q1, q2] at HP
    have HP1 : Hid (∀ e w', OpenPostN w (if confOk k.cf = true then some (k, al ++ [⟨2, nLog, [], hardB k.t k.v k.c, 0⟩, ⟨3, nLog, [], [], 0⟩]) else none) e w' → post e w') := HP.out
    obtain ⟨hb, hhb⟩ := hide (hardB k.t k.v k.c)
    rw [hhb.out] at HR HP1
    go_wp2_with fail
    refine (HR.out _).mono ?_
    rintro e w1 ⟨rfl, hb1⟩
    have Hb1 := Lib.hid hb1
    clear hb1 d0 d1 d2 h0 h1 h2 q0 q1 q2
    have hA0 : Below W.heap.size W (w1.alloc (.cells (([⟨2, nLog, [], hb, 0⟩, ⟨3, nLog, [], [], 0⟩] : List ActP).flatMap rowA).toArray 45)) := Hb1.out.alloc Hb1.out.size _
    have HA0 := Lib.hid hA0
    have HoA := Lib.hid (own_below HA.out hA0)
    have HsA : Hid (Src Try.prog 5 42 (.slice (some ⟨w1.heap.size, 0, none⟩) 2 2) 2 (([⟨2, nLog, [], hb, 0⟩, ⟨3, nLog, [], [], 0⟩] : List ActP).flatMap rowA) (w1.alloc (.cells (([⟨2, nLog, [], hb, 0⟩, ⟨3, nLog, [], [], 0⟩] : List ActP).flatMap rowA).toArray 45))) := src_new (w := w1) Try.underlying42 _ 2 rfl (acts_one [⟨2, nLog, [], hb, 0⟩, ⟨3, nLog, [], [], 0⟩])
    have HSz : Hid (S ≤ (w1.alloc (.cells (([⟨2, nLog, [], hb, 0⟩, ⟨3, nLog, [], [], 0⟩] : List ActP).flatMap rowA).toArray 45)).heap.size) := Nat.le_trans HS.out.2.2 HA0.out.size
    clear hA0
    go_wp2_with (at_builtin; refine wpList_append_src rfl _ _ 42 42 rfl S 45 _ 5 64 Try.underlying42 info_act rfl _ _ _ rfl HoA.out _ 2 _ rfl HsA.out (by have := Hna.out; unfold maxLen; omega) (by have := Hna.out; omega) HSz.out ?_)
    intro v9 V ho9 hg9
    obtain ⟨a9, k9, rfl⟩ := owns_slice ho9
    have HKV := Lib.hid (HK.out.grown HA0.out HoA.out hg9 HS.out.2.1 HAN.out)
    have HBV : Hid (V.heap[B]? = some (.cells zeroKept.toArray 33 (0, 0))) := by
      have hB0 := (HA0.out.block B (lt_of_block HB.out)).trans HB.out
      refine (hg9.block B (lt_of_block hB0) (fun e => ?_)).trans hB0
      have := (HoA.out.lt B e.symm).1
      have := HS.out
      omega
    have HWV : Hid (Below w.heap.size w V) := by
      show Below _ _ _
      have h1 : Below w.heap.size w (w1.alloc (.cells (([⟨2, nLog, [], hb, 0⟩, ⟨3, nLog, [], [], 0⟩] : List ActP).flatMap rowA).toArray 45)) := HW.out.trans (HA0.out.mono HW.out.size)
      exact h1.trans (below_own HoA.out hg9 (by have := HS.out; have := HBP.out; omega) h1.size)
    have HAV : Hid (Acs (fun b => b ≠ B) V (.slice a9 (na + 2) k9) (al ++ [⟨2, nLog, [], hb, 0⟩, ⟨3, nLog, [], [], 0⟩])) := by
      refine HAs.out V _ (na + 2) _ ?_ (by rw [List.length_append, Hna.out.1]; rfl)
      rw [List.flatMap_append]
      exact ho9
    clear ho9 hg9
    iterate 12 (first | done | exact open_conf_end N w V post T B P k ev x y z cx cy cz a9 (na + 2) k9 (al ++ [⟨2, nLog, [], hb, 0⟩, ⟨3, nLog, [], [], 0⟩]) HKV HBV HBP HAV HWV HP1 | go_step)
theorem lastT_range {k : Kp} (h : InvK k) : 0 ≤ lastT k.bt k.es ∧ lastT k.bt k.es ≤ 1099511627775 := by
  have hl := h.log
  unfold logB headB inB at hl
  simp only [Bool.and_eq_true, decide_eq_true_eq] at hl
  obtain ⟨⟨_, h2, _⟩, h3⟩ := hl
  rcases Nat.eq_zero_or_pos k.es.length with h0 | h0
  · have : k.es = [] := List.eq_nil_of_length_eq_zero h0
    rw [this]
    exact h2
  · obtain ⟨m, hm⟩ : ∃ m, k.es.length = m + 1 := ⟨k.es.length - 1, by omega⟩
    rw [lastT_cons hm]
    unfold allB at h3
    have h4 := (List.all_eq_true.1 h3) m (List.mem_range.2 (by omega))
    rw [List.getElem?_eq_getElem (by omega)] at h4
    simp only [okAtL, isEntry, inB, Bool.and_eq_true, decide_eq_true_eq] at h4
    have := h4.1.2.1
    omega
theorem upC_range {k : Kp} (h : InvK k) : 0 ≤ upC k ∧ upC k ≤ 1099511627775 := by
  have h1 := h.ok
  have h2 := h.c
  have := h1.b0
  have := h1.b1
  unfold upC
  omega
set_option maxHeartbeats 4000000 in
set_option maxRecDepth 100000 in
theorem open_up {v0 v1 v2 v3 v5 v6 v9 v10 v11 v12 v13 v14 v15 v16 v17 v18 v19 v20 v21 v22 v23 v24 v25 v26 v27 v28 v29 v30 v31 v32 v33 v34 v35 v36 v37 v38 v39 v40 v41 v42 v43 v44 v45 v46 v47 v48 v49 v50 v51 v52 v53 v54 v55 v56 v57 v58 v59 v60 v61 v62 v63 v64 v65 v66 v67 v68 v69 v70 v71 v72 v73 v74 v75 v76 v77 v78 v79 v80 v81 v82 v83 v84 v85 v86 v87 v88 v89 v90 v91 v92 v93 v94 v95 v96 v97 v98 v99 v100 v101 v102 v103 v104 v105 v106 v107 v108 v109 v110 v111 v112 v113 v114 v115 v116 v117 v118 v119 v120 v121 v122 v123 v124 v125 v126 v127 v128 v129 v130 v131 v132 v133 v134 : Value} (N : Nat → Prop) (w W : World) (post : Ending → World → Prop) (S T B P : Nat) (k : Kp) (ev x y z cx cy cz : Value) (aa : Option Addr) (na ca : Nat) (al : List ActP)
    (HK : Hid (KeptAt N T W P k ev x y z cx cy cz)) (HB : Hid (W.heap[B]? = some (.cells zeroKept.toArray 33 (0, 0)))) (HBP : Hid (B ≠ P ∧ B < T ∧ w.heap.size ≤ B ∧ ¬ N B)) (HwP : Hid (w.heap.size ≤ P))
    (HA : Hid (W.ownsRow S 45 5 (.slice aa na ca) na (al.flatMap rowA))) (Hna : Hid (na = al.length ∧ na ≤ 8)) (HS : Hid (B < S ∧ P < S ∧ S ≤ W.heap.size)) (HAN : Hid (∀ g, (Value.slice aa na ca).ownBlock = some g → ¬ N g ∨ T ≤ g))
    (Hi : Hid (InvK k)) (HW : Hid (Below w.heap.size w W))
    (HP : Hid (∀ e w', OpenPostN w (if confOk k.cf = true then some (fixK k, al ++ fixA k) else none) e w' → post e w')) :
    Code.wp Try.prog ((Try.f9.body.bind (seqAt 21)).getD .skip) (bodyPost Try.prog Try.f9 post) ⟨#[v0, v1, v2, v3, .pointer (some ⟨B, 0, none⟩), v5, v6, .pointer (some ⟨P, 0, none⟩), .slice aa na ca, v9, v10, v11, v12, v13, v14, v15, v16, v17, v18, v19, v20, v21, v22, v23, v24, v25, v26, v27, v28, v29, v30, v31, v32, v33, v34, v35, v36, v37, v38, v39, v40, v41, v42, v43, v44, v45, v46, v47, v48, v49, v50, v51, v52, v53, v54, v55, v56, v57, v58, v59, v60, v61, v62, v63, v64, v65, v66, v67, v68, v69, v70, v71, v72, v73, v74, v75, v76, v77, v78, v79, v80, v81, v82, v83, v84, v85, v86, v87, v88, v89, v90, v91, v92, v93, v94, v95, v96, v97, v98, v99, v100, v101, v102, v103, v104, v105, v106, v107, v108, v109, v110, v111, v112, v113, v114, v115, v116, v117, v118, v119, v120, v121, v122, v123, v124, v125, v126, v127, v128, v129, v130, v131, v132, v133, v134], []⟩ W := by
  conv => arg 2; whnf
  obtain ⟨ae, ce, hev, _, _⟩ := (OwnE.ents HK.out.own).slice
  subst hev
  have HL := Lib.hid (wire_last k.base k.bt (.slice ae k.es.length ce) k.es _ W (OwnE.ents HK.out.own) Hi.out.ok)
  have hlr := lastT_range Hi.out
  have hur := upC_range Hi.out
  have hup : upC k = max k.base (min k.c (k.base + k.es.length)) := rfl
  have Hfx1 : Hid (k.t < lastT k.bt k.es → fixK k = { k with t := lastT k.bt k.es, v := 0, c := upC k }) := fun h => if_pos h
  have Hfx0 : Hid (¬ k.t < lastT k.bt k.es → fixK k = { k with c := upC k }) := fun h => if_neg h
  obtain ⟨ls, hls⟩ := hide (k.base + (k.es.length : Int))
  obtain ⟨lt, hlt⟩ := hide (lastT k.bt k.es)
  obtain ⟨up, hupe⟩ := hide (upC k)
  rw [hls.out, hlt.out] at HL
  rw [hlt.out] at hlr Hfx1 Hfx0
  rw [hupe.out] at hup hur Hfx1 Hfx0
  rw [hls.out] at hup
  have hmm : (if k.base < (if ls < k.c then ls else k.c) then (if ls < k.c then ls else k.c) else k.base) = up := by rw [hup]; split <;> split <;> omega
  have Hmm := Lib.hid hmm
  have Hlr := Lib.hid hlr
  have Hur := Lib.hid hur
  clear hmm hup hlr hur
  have d3 := cell_n HK.out.blk 3 (v := .int .i64 k.base) rfl
  have d4 := cell_n HK.out.blk 4 (v := .int .i64 k.bt) rfl
  have d5 := cell_n HK.out.blk 5 (v := .slice ae k.es.length ce) rfl
  go_wp2_with fail
  refine HL.out.mono ?_
  rintro e w1 ⟨rfl, hb1⟩
  have HK1 := Lib.hid (HK.out.below hb1)
  obtain ⟨V, hV⟩ := hide (w1.alloc (.cells #[.int .i64 k.t, .int .i64 k.v, .int .i64 k.c] 26))
  obtain ⟨H, hH⟩ := hide w1.heap.size
  have hbV : Below W.heap.size W V := by rw [← hV.out]; exact hb1.alloc hb1.size _
  have HKV := Lib.hid (HK.out.below hbV)
  have HHV : Hid (V.heap[H]? = some (.cells #[.int .i64 k.t, .int .i64 k.v, .int .i64 k.c] 26 (0, 0))) := by show _ = _; rw [← hV.out, ← hH.out]; exact hp_at _ _ rfl
  have HHP : Hid (H ≠ P) := by have := lt_of_block HK1.out.blk; rw [hH.out] at this; show H ≠ P; omega
  have HBV : Hid (V.heap[B]? = some (.cells zeroKept.toArray 33 (0, 0))) := (hbV.block B (lt_of_block HB.out)).trans HB.out
  have HAV := Lib.hid (own_below HA.out hbV)
  have HWV : Hid (Below w.heap.size w V) := HW.out.trans (hbV.mono HW.out.size)
  have HSV : Hid (S ≤ V.heap.size) := Nat.le_trans HS.out.2.2 hbV.size
  -- what goes on behind the stores
  have HGo : Hid (∀ (U : World) (k' : Kp), Chg (fun b => b = P) V U → fixK k = k' → U.heap[P]? = some (.cells (cellsK k' (.slice ae k.es.length ce) x y z cx cy cz) 33 (0, 0)) → k'.es = k.es → k'.sc = k.sc → k'.cf = k.cf →
      Hid (KeptAt N T U P k' (.slice ae k.es.length ce) x y z cx cy cz) ∧ Hid (U.heap[B]? = some (.cells zeroKept.toArray 33 (0, 0))) ∧ Hid (U.heap[H]? = some (.cells #[.int .i64 k.t, .int .i64 k.v, .int .i64 k.c] 26 (0, 0))) ∧
      Hid (U.ownsRow S 45 5 (.slice aa na ca) na (al.flatMap rowA)) ∧ Hid (B < S ∧ P < S ∧ S ≤ U.heap.size) ∧ Hid (Below w.heap.size w U) ∧
      Hid (∀ e w', OpenPostN w (if confOk k'.cf = true then some (k', al ++ if ((k'.t == k.t) && ((k'.v == k.v) && (k'.c == k.c))) = true then [] else [⟨2, nLog, [], hardB k'.t k'.v k'.c, 0⟩, ⟨3, nLog, [], [], 0⟩]) else none) e w' → post e w')) := by
    show ∀ (U : World) (k' : Kp), _ → _ → _ → _ → _ → _ → _
    intro U k' hc hf hb h1 h2 h3
    refine ⟨HKV.out.block hc h1 h2 h3 hb, hc.at HBV.out HBP.out.1, hc.at HHV.out HHP.out, ?_, ⟨HS.out.1, HS.out.2.1, Nat.le_trans HSV.out hc.size⟩, ?_, ?_⟩
    · exact own_chg HAV.out hc (fun g hg e => by have := (HAV.out.lt g hg).1; have := HS.out; omega)
    · exact HWV.out.trans (hc.toBelow (fun b hb => by have := HwP.out; omega) HWV.out.size)
    · have h := HP.out
      have hfa : fixA k = if ((k'.t == k.t) && ((k'.v == k.v) && (k'.c == k.c))) = true then [] else [⟨2, nLog, [], hardB k'.t k'.v k'.c, 0⟩, ⟨3, nLog, [], [], 0⟩] := by unfold fixA; rw [hf]; rfl
      show ∀ e w', _ → _
      intro e w' hh
      refine h e w' ?_
      rw [hfa, hf, ← h3]
      exact hh
  have e0 := cell_n HK1.out.blk 0 (v := .int .i64 k.t) rfl
  have e1 := cell_n HK1.out.blk 1 (v := .int .i64 k.v) rfl
  have e2 := cell_n HK1.out.blk 2 (v := .int .i64 k.c) rfl
  clear hb1 hbV d3 d4 d5
  dsimp only
  go_upto_region 23 with fail
  rw [hV.out, hH.out]
  clear e0 e1 e2
  have d0 := cell_n HKV.out.blk 0 (v := .int .i64 k.t) rfl
  have d1 := cell_n HKV.out.blk 1 (v := .int .i64 k.v) rfl
  have d2 := cell_n HKV.out.blk 2 (v := .int .i64 k.c) rfl
  have d3 := cell_n HKV.out.blk 3 (v := .int .i64 k.base) rfl
  have f0 := free_n HKV.out.blk 0
  have f1 := free_n HKV.out.blk 1
  have f2 := free_n HKV.out.blk 2
  by_cases hc : k.t < lt
  · have q1 : decide (k.t < lt) = true := decide_eq_true hc
    have Hfx := Hfx1.out hc
    clear hc
    have hmm := Hmm.out
    go_upto_region 25 with fail
    go_cut [106] from 98 to 108 (fun s wx => wx = setFrom V P 0 [.int .i64 lt, .int .i64 0, .int .i64 up])
    case first =>
      go_wp2_with fail
      all_goals
        go_meet
        rfl
    case rest =>
      obtain ⟨U, hU⟩ : ∃ U, U = wc := ⟨_, rfl⟩
      subst hU
      obtain ⟨g1, g2, g3, g4, g5, g6, g7⟩ := HGo.out U { k with t := lt, v := 0, c := up } (by rw [hcut]; exact chg_from P _ V 0) Hfx (by rw [hcut]; exact from_at HKV.out.blk) rfl rfl rfl
      have g8 : Hid ((0 ≤ ({ k with t := lt, v := 0, c := up } : Kp).t ∧ ({ k with t := lt, v := 0, c := up } : Kp).t ≤ 1099511627775) ∧ (0 ≤ ({ k with t := lt, v := 0, c := up } : Kp).v ∧ ({ k with t := lt, v := 0, c := up } : Kp).v ≤ 1099511627775) ∧ (0 ≤ ({ k with t := lt, v := 0, c := up } : Kp).c ∧ ({ k with t := lt, v := 0, c := up } : Kp).c ≤ 1099511627775)) := by
        show _ ∧ _
        have h1 := Hlr.out
        have h2 := Hur.out
        have h3 := Hi.out.t
        have h4 := Hi.out.v
        exact ⟨h1, by constructor <;> simp, h2⟩
      clear hcut d0 d1 d2 d3 f0 f1 f2 q1 hmm
      iterate 12 (first | done | exact open_fix N w U post S T B P H { k with t := lt, v := 0, c := up } k.t k.v k.c (.slice ae k.es.length ce) x y z cx cy cz aa na ca al g1 g2 HBP g3 g4 Hna g5 HAN g8 g6 g7 | go_step)
  · have q1 : decide (k.t < lt) = false := decide_eq_false hc
    have Hfx := Hfx0.out (by omega)
    clear hc
    have hmm := Hmm.out
    go_upto_region 25 with fail
    go_cut [106] from 98 to 108 (fun s wx => wx = setFrom V P 2 [.int .i64 up])
    case first =>
      go_wp2_with fail
      all_goals
        go_meet
        rfl
    case rest =>
      obtain ⟨U, hU⟩ : ∃ U, U = wc := ⟨_, rfl⟩
      subst hU
      obtain ⟨g1, g2, g3, g4, g5, g6, g7⟩ := HGo.out U { k with c := up } (by rw [hcut]; exact chg_from P _ V 2) Hfx (by rw [hcut]; exact from_at HKV.out.blk) rfl rfl rfl
      have g8 : Hid ((0 ≤ ({ k with c := up } : Kp).t ∧ ({ k with c := up } : Kp).t ≤ 1099511627775) ∧ (0 ≤ ({ k with c := up } : Kp).v ∧ ({ k with c := up } : Kp).v ≤ 1099511627775) ∧ (0 ≤ ({ k with c := up } : Kp).c ∧ ({ k with c := up } : Kp).c ≤ 1099511627775)) := by
        show _ ∧ _
        have h1 := Hlr.out
        have h2 := Hur.out
        have h3 := Hi.out.t
        have h4 := Hi.out.v
        exact ⟨h3, h4, h2⟩
      clear hcut d0 d1 d2 d3 f0 f1 f2 q1 hmm
      iterate 12 (first | done | exact open_fix N w U post S T B P H { k with c := up } k.t k.v k.c (.slice ae k.es.length ce) x y z cx cy cz aa na ca al g1 g2 HBP g3 g4 Hna g5 HAN g8 g6 g7 | go_step)
end Go.Proofs.Ytjlhlmnoomiblaa
