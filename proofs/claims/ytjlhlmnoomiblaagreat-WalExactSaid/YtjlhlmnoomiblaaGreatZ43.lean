/-
  What files say, read by the document: record by record.
-/
import Derived.Test.YtjlhlmnoomiblaaGreatZ38
import Derived.Test.YtjlhlmnoomiblaaGreatZ42
import Derived.Deep.CutBlock
namespace Go.Proofs.YtjlhlmnoomiblaaGreat
open Go.RowKit Wm Mm Lg Fl
set_option linter.unusedVariables false
set_option linter.unusedSimpArgs false

/-- what stands at the head of a round; new blocks are of F -/
structure RHere (F : Nat → Prop) (T : Nat) (w : World) (S B P : Nat) (aa : Option Addr) (na ca : Nat) (al : List ActP) (wr : World) (k : Kp) (ev x y z cx cy cz : Value) : Prop where
  K : RefAt F wr P k ev x y z cx cy cz
  B : wr.heap[B]? = some (.cells zeroKept.toArray 43 (0, 0))
  A : wr.ownsRow S 38 5 (.slice aa na ca) na (al.flatMap rowA)
  W : Below w.heap.size w wr
  I : InvK k
  S : S ≤ wr.heap.size
  ts : T ≤ wr.heap.size
  nf : ∀ b, T ≤ b → F b
theorem RHere.below {F : Nat → Prop} {T : Nat} {w : World} {S B P : Nat} {aa : Option Addr} {na ca : Nat} {al : List ActP} {wr w1 : World} {k : Kp} {ev x y z cx cy cz : Value} (h : RHere F T w S B P aa na ca al wr k ev x y z cx cy cz) (hb : Below wr.heap.size wr w1) : RHere F T w S B P aa na ca al w1 k ev x y z cx cy cz :=
  ⟨h.K.below hb, (hb.block B (lt_of_block h.B)).trans h.B, own_below h.A hb, h.W.trans (hb.mono h.W.size), h.I, Nat.le_trans h.S hb.size, Nat.le_trans h.ts hb.size, h.nf⟩
set_option maxHeartbeats 4000000 in
set_option maxRecDepth 100000 in
theorem ropen_loop {v0 v1 v2 v3 v5 v6 v10 v11 v12 v13 v14 v15 v16 v17 v18 v19 v20 v21 v22 v23 v24 v25 v26 v27 v28 v29 v30 v31 v32 v33 v34 v35 v36 v37 v38 v39 v40 v41 v42 v43 v44 v45 v46 v47 v48 v49 v50 v51 v52 v53 v54 v55 v56 v57 v58 v59 v60 v61 v62 v63 v64 v65 v66 v67 v68 v69 v70 v71 v72 v73 v74 v75 v76 v77 v78 v79 v80 v81 v82 v83 v84 v85 v86 v87 v88 v89 v90 v91 v92 v93 v94 v95 v96 v97 v98 v99 v100 v101 v102 v103 v104 v105 v106 v107 v108 v109 v110 v111 v112 v113 v114 v115 v116 v117 v118 v119 v120 v121 v122 v123 v124 v125 v126 v127 v128 v129 v130 v131 v132 v133 v134 v135 v136 v137 v138 v139 v140 v141 v142 v143 v144 v145 v146 v147 v148 v149 v150 v151 v152 v153 v154 v155 v156 v157 v158 v159 v160 v161 v162 v163 v164 : Value} (F : Nat → Prop) (T : Nat) (w W : World) (post : Ending → World → Prop) (S B P : Nat) (k : Kp) (ev x y z cx cy cz : Value) (aa : Option Addr) (na ca : Nat) (al : List ActP) (sv : List UInt8)
    (HH : Hid (RHere F T w S B P aa na ca al W k ev x y z cx cy cz)) (HBP : Hid (B ≠ P ∧ w.heap.size ≤ B ∧ ¬ F B)) (HwP : Hid (w.heap.size ≤ P)) (Hna : Hid (na = al.length ∧ na ≤ 4)) (HS : Hid (B < S ∧ P < S)) (HAT : Hid (∀ g, (Value.slice aa na ca).ownBlock = some g → ¬ F g))
    (hsv : sv.length ≤ 4611686018427387904)
    (HP : Hid (∀ e w', OpenPost w (match goP k sv with | none => none | some (k', rest) => if confOk k'.cf = true then some (fixK k', al ++ (cutOff sv rest ++ fixA k')) else none) e w' → post e w')) :
    Code.wp Tryz.prog ((Tryz.f8.body.bind (seqAt 18)).getD .skip) (bodyPost Tryz.prog Tryz.f8 post) ⟨#[v0, v1, v2, v3, .pointer (some ⟨B, 0, none⟩), v5, v6, .pointer (some ⟨P, 0, none⟩), .slice aa na ca, str sv, v10, v11, v12, v13, v14, v15, v16, v17, v18, v19, v20, v21, v22, v23, v24, v25, v26, v27, v28, v29, v30, v31, v32, v33, v34, v35, v36, v37, v38, v39, v40, v41, v42, v43, v44, v45, v46, v47, v48, v49, v50, v51, v52, v53, v54, v55, v56, v57, v58, v59, v60, v61, v62, v63, v64, v65, v66, v67, v68, v69, v70, v71, v72, v73, v74, v75, v76, v77, v78, v79, v80, v81, v82, v83, v84, v85, v86, v87, v88, v89, v90, v91, v92, v93, v94, v95, v96, v97, v98, v99, v100, v101, v102, v103, v104, v105, v106, v107, v108, v109, v110, v111, v112, v113, v114, v115, v116, v117, v118, v119, v120, v121, v122, v123, v124, v125, v126, v127, v128, v129, v130, v131, v132, v133, v134, v135, v136, v137, v138, v139, v140, v141, v142, v143, v144, v145, v146, v147, v148, v149, v150, v151, v152, v153, v154, v155, v156, v157, v158, v159, v160, v161, v162, v163, v164], []⟩ W := by
  conv => arg 2; whnf
  have Hcut : Hid (∀ k' rest, goP k sv = some (k', rest) → ∀ e w', OpenPost w (if confOk k'.cf = true then some (fixK k', (al ++ cutOff sv rest) ++ fixA k') else none) e w' → post e w') := by
    show ∀ k' rest, _ → ∀ e w', _ → _
    intro k' rest hg e w' hh
    refine HP.out e w' ?_
    rw [hg]
    show OpenPost w (if confOk k'.cf = true then some (fixK k', al ++ (cutOff sv rest ++ fixA k')) else none) e w'
    rw [← List.append_assoc]
    exact hh
  have HNo : Hid (goP k sv = none → ∀ w1, Below w.heap.size w w1 → post (.returned (.tuple #[.agg zeroKept.toArray, .slice none 0 0, .int .i64 16])) (setAll w1 B zeroKept)) := by
    show _ → ∀ w1, _ → _
    intro hg w1 hb
    refine HP.out _ _ ?_
    rw [hg]
    exact ⟨setAll_below hb HBP.out.2.1 _, rfl⟩
  go_upto_block 5 with fail
  go_cut [8, 12] from 68 to 98 (fun s8 s12 wx => ∃ (k' : Kp) (rest : List UInt8) (F' : Nat → Prop) (T' : Nat) (ev x y z cx cy cz : Value) (a9 : Option Addr) (n9 c9 : Nat), s8 = .slice a9 n9 c9 ∧ s12 = str rest ∧ Hid (goP k sv = some (k', rest)) ∧ Hid (RHere F' T' w S B P a9 n9 c9 (al ++ cutOff sv rest) wx k' ev x y z cx cy cz) ∧ Hid (∀ b, F' b → F b) ∧ Hid (n9 = (al ++ cutOff sv rest).length ∧ n9 ≤ 8) ∧ Hid (∀ g, (Value.slice a9 n9 c9).ownBlock = some g → ¬ F' g))
  case first =>
    go_wp2_with fail
    go_loopw [8, 12] (fun s8 s12 wr => ∃ (kk : Kp) (rest : List UInt8) (ev x y z cx cy cz : Value), s8 = .slice aa na ca ∧ s12 = str rest ∧ Hid (goP k sv = goP kk rest) ∧ Hid (RHere F T w S B P aa na ca al wr kk ev x y z cx cy cz) ∧ Hid (rest.length ≤ sv.length)) (fun _ s12 _ => strLen s12)
    case atStart => exact ⟨k, sv, ev, x, y, z, cx, cy, cz, rfl, rfl, rfl, HH.out, Nat.le_refl _⟩
    case round =>
      obtain ⟨kk, rest, ev1, x1, y1, z1, cx1, cy1, cz1, rfl, rfl, hg, hh, hl⟩ := hrel
      by_cases h0 : rest = []
      · subst h0
        have t0 : (([] : List UInt8) != []) = false := rfl
        have hgo : Hid (goP k sv = some (kk, [])) := by show _ = _; rw [hg.out, goP_nil]
        have hco : Hid (al ++ cutOff sv [] = al) := by show _ = _; simp [cutOff]
        have hHe : Hid (RHere F T w S B P aa na ca (al ++ cutOff sv []) wr kk ev1 x1 y1 z1 cx1 cy1 cz1) := by show RHere _ _ _ _ _ _ _ _ _ _ _ _ _ _ _ _ _ _ _; rw [hco.out]; exact hh.out
        have hnn : Hid (na = (al ++ cutOff sv []).length ∧ na ≤ 8) := by show _ ∧ _; rw [hco.out]; exact ⟨Hna.out.1, by have := Hna.out; omega⟩
        have hFF : Hid (∀ b, F b → F b) := fun _ h => h
        go_wp2_with fail
        go_meet
        exact ⟨kk, [], F, T, ev1, x1, y1, z1, cx1, cy1, cz1, aa, na, ca, rfl, rfl, hgo, hHe, hFF, hnn, HAT⟩
      · have t0 : rest.isEmpty = false := by cases rest with
          | nil => exact absurd rfl h0
          | cons => rfl
        have hl2 : rest.length ≤ 4611686018427387904 := by have := hl.out; omega
        have HU := Lib.hid (ref_unframe rest wr (by omega))
        cases hu : unframe rest with
        | error zz =>
          have hz := unframe_err hu
          have hgo : Hid (goP k sv = some (kk, rest)) := by show _ = _; rw [hg.out, goP_end h0 hu]
          rw [hu] at HU
          have tz : (zz != 0) = true := bne_iff_ne.2 hz
          have hco : Hid (cutOff sv rest = [⟨6, nLog, [], [], (sv.length : Int) - rest.length⟩, ⟨3, nLog, [], [], 0⟩]) := by show _ = _; unfold cutOff; rw [if_neg h0]
          have hwr : IntKind.i64.wrap ((sv.length : Int) - (rest.length : Int)) = (sv.length : Int) - rest.length := IntWalk.i64_in _ (by omega)
          clear h0 hu hz
          go_wp2_with fail
          refine HU.out.mono ?_
          rintro e w1 ⟨rfl, hb1⟩
          dsimp only [gotB, gotR, gotZ]
          have H1 := Lib.hid (hh.out.below hb1)
          clear hb1
          have hA0 : Below w1.heap.size w1 (w1.alloc (.cells (([⟨6, nLog, [], [], (sv.length : Int) - rest.length⟩, ⟨3, nLog, [], [], 0⟩] : List ActP).flatMap rowA).toArray 38)) := (Below.refl _ _).alloc (Nat.le_refl _) _
          have HA0 := Lib.hid hA0
          have H2 := Lib.hid (H1.out.below hA0)
          have HoA := Lib.hid H2.out.A
          have HsA : Hid (Src Tryz.prog 5 35 (.slice (some ⟨w1.heap.size, 0, none⟩) 2 2) 2 (([⟨6, nLog, [], [], (sv.length : Int) - rest.length⟩, ⟨3, nLog, [], [], 0⟩] : List ActP).flatMap rowA) (w1.alloc (.cells (([⟨6, nLog, [], [], (sv.length : Int) - rest.length⟩, ⟨3, nLog, [], [], 0⟩] : List ActP).flatMap rowA).toArray 38))) := src_new (w := w1) Tryz.underlying35 _ 2 rfl (acts_one [⟨6, nLog, [], [], (sv.length : Int) - rest.length⟩, ⟨3, nLog, [], [], 0⟩])
          have HSz := Lib.hid H2.out.S
          clear hA0
          go_wp2_with (at_builtin; refine wpList_append_at rfl _ _ 35 35 rfl S 38 _ 5 64 Tryz.underlying35 info_act rfl _ _ _ rfl HoA.out _ 2 _ rfl HsA.out (by have := Hna.out; unfold maxLen; omega) (by have := Hna.out; omega) HSz.out ?_)
          intro v9 V ho9 hg9 hb9
          obtain ⟨a9, k9, rfl⟩ := owns_slice ho9
          have HKV := H2.out.K.grown (Below.refl _ _) HoA.out hg9 HS.out.2 HAT.out
          have HBV : V.heap[B]? = some (.cells zeroKept.toArray 43 (0, 0)) := by
            refine (hg9.block B (lt_of_block H2.out.B) (fun e => ?_)).trans H2.out.B
            have := (HoA.out.lt B e.symm).1
            have := HS.out
            omega
          have HWV : Below w.heap.size w V := H2.out.W.trans (below_own HoA.out hg9 (by have := HS.out; have := HBP.out; omega) H2.out.W.size)
          have hlen : (al ++ cutOff sv rest).length = na + 2 := by rw [hco.out, List.length_append, Hna.out.1]; rfl
          have HF9 : Hid (∀ g, (Value.slice a9 (na + 2) k9).ownBlock = some g → ¬ (F g ∧ (Value.slice a9 (na + 2) k9).ownBlock ≠ some g)) := fun g hg h => h.2 hg
          have hHe : Hid (RHere (fun b => F b ∧ (Value.slice a9 (na + 2) k9).ownBlock ≠ some b) V.heap.size w S B P a9 (na + 2) k9 (al ++ cutOff sv rest) V kk ev1 x1 y1 z1 cx1 cy1 cz1) := by
            refine ⟨?_, HBV, ?_, HWV, H2.out.I, Nat.le_trans H2.out.S hg9.size, Nat.le_refl _, fun b hb => ⟨H2.out.nf b (Nat.le_trans H2.out.ts (Nat.le_trans hg9.size hb)), fun e => by have := (ho9.lt b e).2; omega⟩⟩
            · have HK1 := H1.out.K
              have hag : Agree F w1 V := by
                have h1 : Agree F w1 (w1.alloc (.cells (([⟨6, nLog, [], [], (sv.length : Int) - rest.length⟩, ⟨3, nLog, [], [], 0⟩] : List ActP).flatMap rowA).toArray 38)) := Agree.below HA0.out
                exact h1.trans (Agree.grown hg9 (fun b hb hlt e => HAT.out b e.symm hb))
              have hw : ∀ b, F b → b < w1.heap.size → F b ∧ (Value.slice a9 (na + 2) k9).ownBlock ≠ some b := fun b hb hlt => ⟨hb, fun e => by
                rcases hb9 b e with h | h
                · exact HAT.out b h hb
                · omega⟩
              have h1 := HK1.weak (G := fun b => F b ∧ (Value.slice a9 (na + 2) k9).ownBlock ≠ some b) hw (fun h => HK1.np h.1)
              have hag2 : Agree (fun b => F b ∧ (Value.slice a9 (na + 2) k9).ownBlock ≠ some b) w1 V := ⟨hag.1, fun b hb hlt => hag.2 b hb.1 hlt⟩
              exact ⟨HKV.blk, h1.es.frame (Plain.good _) hag2, h1.sc.frame hag2, h1.cf.frame hag2, h1.np⟩
            · rw [hco.out, List.flatMap_append]
              exact ho9
          have hnn : Hid (na + 2 = (al ++ cutOff sv rest).length ∧ na + 2 ≤ 8) := ⟨hlen.symm, by have := Hna.out; omega⟩
          have hFF : Hid (∀ b, (F b ∧ (Value.slice a9 (na + 2) k9).ownBlock ≠ some b) → F b) := fun _ h => h.1
          clear ho9 hg9 hb9 HKV HBV HWV hlen
          go_wp2_with fail
          go_meet
          exact ⟨kk, rest, _, _, ev1, x1, y1, z1, cx1, cy1, cz1, a9, na + 2, k9, rfl, rfl, hgo, hHe, hFF, hnn, HF9⟩
        | ok p =>
          obtain ⟨b, t⟩ := p
          have hlt := unframe_lt hu
          rw [hu] at HU
          have HNone : Hid (recP kk b = none → goP k sv = none) := fun h => by rw [hg.out, goP_no h0 hu h]
          have HSome : Hid (∀ k2, recP kk b = some k2 → goP k sv = goP k2 t) := fun k2 h => by rw [hg.out, goP_on h0 hu h]
          have Hlt := Lib.hid hlt
          clear h0 hu hlt
          go_wp2_with fail
          refine HU.out.mono ?_
          rintro e w1 ⟨rfl, hb1⟩
          dsimp only [gotB, gotR, gotZ]
          have H1 := Lib.hid (hh.out.below hb1)
          have HR := Lib.hid (taken_all kk ev1 x1 y1 z1 cx1 cy1 cz1 F b w1 H1.out.K.es H1.out.K.sc H1.out.K.cf H1.out.I (by have := Hlt.out; omega))
          have Hrec : Hid (∀ o, recP kk b = o → (o = none → goP k sv = none) ∧ (∀ k2, o = some k2 → goP k sv = goP k2 t ∧ InvK k2)) := fun o ho => ⟨fun h => HNone.out (ho.trans h), fun k2 h => ⟨HSome.out k2 (ho.trans h), H1.out.I.record (ho.trans h)⟩⟩
          obtain ⟨o, ho⟩ := hide (recP kk b)
          rw [ho.out] at HR
          have Hrec2 := Lib.hid (Hrec.out o ho.out)
          have Hbl1 := Lib.hid H1.out.K.blk
          clear hb1
          go_upto_region 23 with fail
          refine wp_region_lit ?_
          refine wpList_load_row rfl 43 (.tmp 7) rfl P rfl 43 (cellsK kk ev1 x1 y1 z1 cx1 cy1 cz1) (0, 0) _ Hbl1.out Tryz.underlying43 rfl size_kept ?_
          go_wp2_with fail
          refine HR.out.mono ?_
          rintro e w2 ⟨hb2, k3, ev3, x3, y3, z3, cx3, cy3, cz3, rfl, hE3, hc3, hcf3, hk3⟩
          have H2 := Lib.hid (H1.out.below hb2)
          have HW3 : Hid (∀ b, NewF F w1 b → b < w2.heap.size → F b) := fun b hb _ => by
            rcases hb with h | h
            · exact h
            · exact H1.out.nf b (Nat.le_trans H1.out.ts h)
          have HE3 := Lib.hid (hE3.weak (Plain.good _) HW3.out)
          have HC3 := Lib.hid (hc3.weak HW3.out)
          have HCf3 := Lib.hid (hcf3.weak HW3.out)
          obtain ⟨ae, ce, hev, _, _⟩ := HE3.out.slice
          obtain ⟨ao1, cp1, hx, _⟩ := len_of_Ints HC3.out.v.ints
          obtain ⟨ao2, cp2, hy, _⟩ := len_of_Ints HC3.out.n.ints
          obtain ⟨ao3, cp3, hz, _⟩ := len_of_Ints HC3.out.l.ints
          obtain ⟨ao4, cp4, hcx, _⟩ := len_of_Ints HCf3.out.v.ints
          obtain ⟨ao5, cp5, hcy, _⟩ := len_of_Ints HCf3.out.n.ints
          obtain ⟨ao6, cp6, hcz, _⟩ := len_of_Ints HCf3.out.l.ints
          subst hev hx hy hz hcx hcy hcz
          obtain ⟨V, hV⟩ := hide (w2.alloc (.cells #[.int .i64 k3.t, .int .i64 k3.v, .int .i64 k3.c, .int .i64 k3.base, .int .i64 k3.bt, .slice ae k3.es.length ce, .int .i64 k3.si, .int .i64 k3.st, .slice ao1 k3.sc.v.length cp1, .slice ao2 k3.sc.n.length cp2, .slice ao3 k3.sc.l.length cp3, str k3.sd, .slice ao4 k3.cf.v.length cp4, .slice ao5 k3.cf.n.length cp5, .slice ao6 k3.cf.l.length cp6] 43))
          obtain ⟨M, hM⟩ := hide w2.heap.size
          have hbV : Below w2.heap.size w2 V := by rw [← hV.out]; exact (Below.refl _ _).alloc (Nat.le_refl _) _
          have HbV := Lib.hid hbV
          have H3 := Lib.hid (H2.out.below hbV)
          have HMV : Hid (V.heap[M]? = some (.cells (cellsK k3 (.slice ae k3.es.length ce) (.slice ao1 k3.sc.v.length cp1) (.slice ao2 k3.sc.n.length cp2) (.slice ao3 k3.sc.l.length cp3) (.slice ao4 k3.cf.v.length cp4) (.slice ao5 k3.cf.n.length cp5) (.slice ao6 k3.cf.l.length cp6)) 43 (0, 0))) := by show _ = _; rw [← hV.out, ← hM.out]; exact hp_at _ _ rfl
          have Hk3 := Lib.hid hk3
          clear hb2 hE3 hc3 hcf3 hbV hk3
          obtain ⟨q, hq⟩ := hide o.isSome
          rw [hq.out]
          cases q with
          | false =>
            have hno : o = none := by
              have := hq.out
              cases o with
              | none => rfl
              | some _ => cases this
            have hno2 := Hrec2.out.1 hno
            go_upto_region 24 with fail
            rw [hV.out, hM.out]
            have h9 := setAll_at H3.out.B zeroKept rfl
            have H9 := Lib.hid h9
            have Hth : Hid (V.there B 0 15) := there_ofW H3.out.B
            have Hpost := Lib.hid (HNo.out hno2 V H3.out.W)
            clear h9
            go_upto_region 25 with fail
            refine wp_region_lit ?_
            iterate 3 go_step
            refine wpList_store_mid rfl 43 (.tmp 4) (.tmp 96) rfl B 0 zeroKept.toArray rfl rfl Hth.out size_kept (by simp [Value.oneCell']) ?_
            rw [setCells_eqW]
            show wpList _ _ _ _ _ (setAll V B zeroKept)
            generalize setAll V B zeroKept = W9 at H9 Hpost ⊢
            go_wp2_with fail
            refine bodyPost_ret (results_three rfl _ W9 B 43 zeroKept.toArray (0, 0) _ rfl H9.out Tryz.underlying43 rfl size_kept) rfl ?_
            exact Hpost.out
          | true =>
            obtain ⟨k2, hk2⟩ : ∃ k2, o = some k2 := by
              have := hq.out
              cases o with
              | none => cases this
              | some k => exact ⟨k, rfl⟩
            have hr2 := Hrec2.out.2 k2 hk2
            have he := Hk3.out k2 hk2
            subst he
            have hgo := Lib.hid hr2.1
            have Hi3 := Lib.hid hr2.2
            obtain ⟨U, hU⟩ := hide (setAll V P (cellsK k3 (.slice ae k3.es.length ce) (.slice ao1 k3.sc.v.length cp1) (.slice ao2 k3.sc.n.length cp2) (.slice ao3 k3.sc.l.length cp3) (.slice ao4 k3.cf.v.length cp4) (.slice ao5 k3.cf.n.length cp5) (.slice ao6 k3.cf.l.length cp6)).toList)
            have hcU : Chg (fun b => b = P) V U := by rw [← hU.out]; exact chg_from P _ V 0
            have hPU : U.heap[P]? = some (.cells (cellsK k3 (.slice ae k3.es.length ce) (.slice ao1 k3.sc.v.length cp1) (.slice ao2 k3.sc.n.length cp2) (.slice ao3 k3.sc.l.length cp3) (.slice ao4 k3.cf.v.length cp4) (.slice ao5 k3.cf.n.length cp5) (.slice ao6 k3.cf.l.length cp6)) 43 (0, 0)) := by rw [← hU.out]; exact setAll_at H3.out.K.blk (cellsK k3 (.slice ae k3.es.length ce) (.slice ao1 k3.sc.v.length cp1) (.slice ao2 k3.sc.n.length cp2) (.slice ao3 k3.sc.l.length cp3) (.slice ao4 k3.cf.v.length cp4) (.slice ao5 k3.cf.n.length cp5) (.slice ao6 k3.cf.l.length cp6)).toList rfl
            have hHe : Hid (RHere F T w S B P aa na ca al U k3 (.slice ae k3.es.length ce) (.slice ao1 k3.sc.v.length cp1) (.slice ao2 k3.sc.n.length cp2) (.slice ao3 k3.sc.l.length cp3) (.slice ao4 k3.cf.v.length cp4) (.slice ao5 k3.cf.n.length cp5) (.slice ao6 k3.cf.l.length cp6)) := by
              have hag : Agree F w2 U := (Agree.below HbV.out).trans (hcU.agree (fun b hb e => H1.out.K.np (e ▸ hb)))
              refine ⟨⟨hPU, HE3.out.frame (Plain.good _) hag, HC3.out.frame hag, HCf3.out.frame hag, H1.out.K.np⟩, hcU.at H3.out.B HBP.out.1, ?_, ?_, Hi3.out, Nat.le_trans H3.out.S hcU.size, Nat.le_trans H3.out.ts hcU.size, H1.out.nf⟩
              · exact own_chg H3.out.A hcU (fun g hg e => by have := (H3.out.A.lt g hg).1; have := HS.out; omega)
              · exact H3.out.W.trans (hcU.toBelow (fun b hb => by have := HwP.out; omega) H3.out.W.size)
            have hLL : Hid (t.length ≤ sv.length) := by show _ ≤ _; have := Hlt.out; have := hl.out; omega
            have Hth : Hid (V.there P 0 15) := there_ofW H3.out.K.blk
            clear hcU hPU hr2 hk2
            go_upto_region 24 with fail
            rw [hV.out, hM.out]
            go_upto_region 26 with fail
            refine wp_region_lit ?_
            refine wpList_load_row rfl 43 (.tmp 16) rfl M rfl 43 (cellsK k3 (.slice ae k3.es.length ce) (.slice ao1 k3.sc.v.length cp1) (.slice ao2 k3.sc.n.length cp2) (.slice ao3 k3.sc.l.length cp3) (.slice ao4 k3.cf.v.length cp4) (.slice ao5 k3.cf.n.length cp5) (.slice ao6 k3.cf.l.length cp6)) (0, 0) _ HMV.out Tryz.underlying43 rfl size_kept ?_
            refine wpList_store_mid rfl 43 (.tmp 7) (.tmp 97) rfl P 0 (cellsK k3 (.slice ae k3.es.length ce) (.slice ao1 k3.sc.v.length cp1) (.slice ao2 k3.sc.n.length cp2) (.slice ao3 k3.sc.l.length cp3) (.slice ao4 k3.cf.v.length cp4) (.slice ao5 k3.cf.n.length cp5) (.slice ao6 k3.cf.l.length cp6)) rfl rfl Hth.out size_kept (by simp [Value.oneCell']) ?_
            rw [setCells_eqW]
            show wpList _ _ _ _ _ (setAll V P (cellsK k3 (.slice ae k3.es.length ce) (.slice ao1 k3.sc.v.length cp1) (.slice ao2 k3.sc.n.length cp2) (.slice ao3 k3.sc.l.length cp3) (.slice ao4 k3.cf.v.length cp4) (.slice ao5 k3.cf.n.length cp5) (.slice ao6 k3.cf.l.length cp6)).toList)
            rw [hU.out]
            go_wp2_with fail
            go_roundw
            case rel => exact ⟨k3, t, _, _, _, _, _, _, _, rfl, rfl, hgo, hHe, hLL⟩
            case measure => rw [strLen_str, strLen_str]; exact Hlt.out.1
  case rest =>
    obtain ⟨U, hU⟩ : ∃ U, U = wc := ⟨_, rfl⟩
    subst hU
    obtain ⟨k', rest, F', T', ev', x', y', z', cx', cy', cz', a9, n9, c9, rfl, rfl, hg, hh, hF, hn, hA⟩ := hcut
    have g1 := Lib.hid hh.out.K
    have g2 := Lib.hid hh.out.B
    have g3 : Hid (B ≠ P ∧ w.heap.size ≤ B ∧ ¬ F' B) := ⟨HBP.out.1, HBP.out.2.1, fun h => HBP.out.2.2 (hF.out B h)⟩
    have g4 := Lib.hid hh.out.A
    have g5 : Hid (B < S ∧ P < S ∧ S ≤ U.heap.size) := ⟨HS.out.1, HS.out.2, hh.out.S⟩
    have g6 := Lib.hid hh.out.I
    have g7 := Lib.hid hh.out.W
    have g8 : Hid (∀ e w', OpenPost w (if confOk k'.cf = true then some (fixK k', (al ++ cutOff sv rest) ++ fixA k') else none) e w' → post e w') := Hcut.out k' rest hg.out
    clear HP
    iterate 12 (first | done | exact ropen_up F' w U post S B P k' ev' x' y' z' cx' cy' cz' a9 n9 c9 (al ++ cutOff sv rest) g1 g2 g3 HwP g4 hn g5 hA g6 g7 g8 | go_step)
end Go.Proofs.YtjlhlmnoomiblaaGreat
