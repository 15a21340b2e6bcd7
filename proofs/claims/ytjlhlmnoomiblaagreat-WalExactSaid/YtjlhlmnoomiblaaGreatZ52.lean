/-
  WalExact in plain words: what files say, what is kept.
-/
import Derived.Test.YtjlhlmnoomiblaaGreatZ50
import Derived.Test.YtjlhlmnoomiblaaGreatZ20
import Derived.Test.YtjlhlmnoomiblaaGreatZ21
import Derived.Test.YtjlhlmnoomiblaaGreatZ51
import Derived.Deep.CutRange
import Derived.BigRegion
import Derived.Deep.MidRow
import Derived.Laws.Rows
namespace Go.Proofs.YtjlhlmnoomiblaaGreat
open Go.RowKit Wm Mm Lg Fl
set_option linter.unusedVariables false
set_option linter.unusedSimpArgs false

theorem InvK.fix {k : Kp} (h : InvK k) : InvK (fixK k) := by
  have h1 := lastT_range h
  have h2 := upC_range h
  unfold fixK
  split
  · exact ⟨h1, ⟨by simp, by simp⟩, h2, h.log, h.n⟩
  · exact ⟨h.t, h.v, h2, h.log, h.n⟩
theorem InvK.go : ∀ (n : Nat) (k : Kp) (s : List UInt8) (k' : Kp) (rest : List UInt8), s.length ≤ n → InvK k → goP k s = some (k', rest) → InvK k' := by
  intro n
  induction n with
  | zero =>
    intro k s k' rest hs h e
    have : s = [] := List.eq_nil_of_length_eq_zero (by omega)
    subst this
    rw [goP_nil] at e
    injection e with e
    injection e with e1 e2
    exact e1 ▸ h
  | succ n ih =>
    intro k s k' rest hs h e
    by_cases h0 : s = []
    · subst h0
      rw [goP_nil] at e
      injection e with e
      injection e with e1 e2
      exact e1 ▸ h
    · cases hu : unframe s with
      | error z =>
        rw [goP_end h0 hu] at e
        injection e with e
        injection e with e1 e2
        exact e1 ▸ h
      | ok p =>
        obtain ⟨b, t⟩ := p
        cases hr : recP k b with
        | none => rw [goP_no h0 hu hr] at e; cases e
        | some k2 =>
          rw [goP_on h0 hu hr] at e
          exact ih k2 t k' rest (by have := (unframe_lt hu).1; omega) (h.record hr) e
theorem openP_inv {l : List FileP} {c : Conf} {k : Kp} {al : List ActP} (h : openP l c = some (k, al)) : InvK k := by
  unfold openP at h
  split at h
  · cases h
  · split at h
    · cases h
    · rename_i k' rest hg
      split at h
      · injection h with h
        injection h with h1 h2
        rw [← h1]
        exact (InvK.go _ _ _ _ _ (Nat.le_refl _) (InvK.zero c) hg).fix
      · cases h
theorem InvK.ents {k : Kp} (h : InvK k) : ∀ e ∈ k.es, entOk e = true := by
  intro e he
  obtain ⟨j, hj, rfl⟩ := List.getElem_of_mem he
  have hl := h.log
  unfold logB allB at hl
  simp only [Bool.and_eq_true] at hl
  have h2 := (List.all_eq_true.1 hl.2) j (List.mem_range.2 hj)
  rw [List.getElem?_eq_getElem hj] at h2
  simp only [okAtL, Bool.and_eq_true] at h2
  exact h2.1
abbrev kO (o : Option (Kp × List ActP)) : Kp := match o with | none => zeroK noC | some (k, _) => k
abbrev aO (o : Option (Kp × List ActP)) : List ActP := match o with | none => [] | some (_, a) => a
abbrev zO (o : Option (Kp × List ActP)) : Int := match o with | none => 16 | some _ => 0
theorem OpenPost.plain {w w' : World} {o : Option (Kp × List ActP)} {e : Ending} (h : OpenPost w o e w') : ∃ ev x y z cx cy cz av, e = .returned (.tuple #[.agg (cellsK (kO o) ev x y z cx cy cz), av, .int .i64 (zO o)]) ∧ Ents (fun _ => True) w' ev (kO o).es ∧ Config3 w' x y z (kO o).sc ∧ Config3 w' cx cy cz (kO o).cf ∧ Acs (fun _ => True) w' av (aO o) ∧ Below w.heap.size w w' := by
  obtain ⟨hb, h⟩ := h
  cases o with
  | none => exact ⟨_, _, _, _, _, _, _, _, h, (OwnE.ents (World.ownsRow_nil _ 0 _ _)).weak (Plain.good _) (fun _ _ _ => trivial), Config3.nil _, Config3.nil _, (Sl.own rowA rowA_len (own_nil' 0 w') (fun _ _ => rfl) (fun _ _ _ _ => trivial)), hb⟩
  | some p =>
    obtain ⟨k, al⟩ := p
    obtain ⟨ev, x, y, z, cx, cy, cz, av, he, h1, h2, h3, h4⟩ := h
    exact ⟨ev, x, y, z, cx, cy, cz, av, he, h1, h2, h3, h4, hb⟩
theorem Acs.mono {F : Nat → Prop} {w w' : World} {v : Value} {l : List ActP} (h : Acs F w v l) (hb : Below w.heap.size w w') : Acs F w' v l := h.frame (Plain.good _) (Agree.below hb)
theorem Ents.mono {F : Nat → Prop} {w w' : World} {v : Value} {l : List EntP} (h : Ents F w v l) (hb : Below w.heap.size w w') : Ents F w' v l := h.frame (Plain.good _) (Agree.below hb)
theorem isSnap_len {i t : Int} {c : Conf} {d : List UInt8} : (putSnapB i t c d).length ≤ 1000000 := by have := putSnapB_len i t c d; omega
/-- a known state in block M, rows anywhere -/
structure KAt (w : World) (M : Nat) (k : Kp) (ev x y z cx cy cz : Value) : Prop where
  blk : w.heap[M]? = some (.cells (cellsK k ev x y z cx cy cz) 43 (0, 0))
  es : Ents (fun _ => True) w ev k.es
  sc : Config3 w x y z k.sc
  cf : Config3 w cx cy cz k.cf
theorem KAt.below {w w' : World} {M : Nat} {k : Kp} {ev x y z cx cy cz : Value} (h : KAt w M k ev x y z cx cy cz) (hb : Below w.heap.size w w') : KAt w' M k ev x y z cx cy cz :=
  ⟨(hb.block M (lt_of_block h.blk)).trans h.blk, Ents.mono h.es hb, h.sc.mono hb, h.cf.mono hb⟩
structure RP where
  t : Int
  v : Int
  c : Int
  kept : Bool
  es : List EntP
  si : Int
  st : Int
  sc : Conf
  sd : List UInt8
/-- what is to be kept in block R -/
structure RAt (w : World) (R : Nat) (r : RP) (ev x y z m1 m2 m3 m4 : Value) : Prop where
  blk : w.heap[R]? = some (.cells (cellsR r.t r.v r.c r.kept ev r.si r.st x y z r.sd m1 m2 m3 m4) 33 (0, 0))
  es : Ents (fun _ => True) w ev r.es
  sc : Config3 w x y z r.sc
theorem RAt.below {w w' : World} {R : Nat} {r : RP} {ev x y z m1 m2 m3 m4 : Value} (h : RAt w R r ev x y z m1 m2 m3 m4) (hb : Below w.heap.size w w') : RAt w' R r ev x y z m1 m2 m3 m4 :=
  ⟨(hb.block R (lt_of_block h.blk)).trans h.blk, Ents.mono h.es hb, h.sc.mono hb⟩
theorem size_ready : (Tryz.prog.info? 33).map (·.size) = some 15 := by kernel_rfl
set_option maxHeartbeats 4000000 in
set_option maxRecDepth 100000 in
theorem walx_cut {v0 v1 v2 v3 v4 v5 v6 v7 v8 v9 v10 v11 v13 v15 v16 v17 v18 v19 v20 v22 v23 v24 v25 v26 v27 v28 v29 v30 v31 v32 v33 v34 v35 v36 v37 v38 v39 v40 v41 v42 v43 v44 v45 v46 v47 v48 v49 v50 v51 v52 v53 v54 v55 v56 v57 v58 v59 v60 v61 v62 v63 v64 v65 v66 v67 v68 v69 v70 v71 v72 v73 v74 v75 v76 v77 v78 v79 v80 v81 v82 v83 v84 v85 v86 v87 v88 v89 v90 v91 v92 v93 v94 v95 v96 v97 v98 v99 v100 v101 v102 v103 v104 v105 v106 v107 v108 v109 v110 v111 v112 v113 v114 v115 v116 v117 v118 v119 v120 v121 v122 v123 v124 v125 v126 v127 v128 v129 v130 v131 v132 v133 v134 v135 v136 v137 v138 v139 v140 v141 v142 v143 v144 v145 v146 v147 : Value} (w W : World) (post : Ending → World → Prop) (M : Nat) (k : Kp) (ev x y z cx cy cz : Value) (f : Int)
    (HM : Hid (KAt W M k ev x y z cx cy cz)) (Hf : Hid (f = 0 → InvK k)) (HW : Hid (Below w.heap.size w W)) (HP : Hid (∀ w', Below w.heap.size w w' → post (.returned (.bool true)) w')) :
    Code.wp Tryz.prog ((Tryz.f3.body.bind (seqAt 22)).getD .skip) (bodyPost Tryz.prog Tryz.f3 post) ⟨#[v0, v1, v2, v3, v4, v5, v6, v7, v8, v9, v10, v11, .pointer (some ⟨M, 0, none⟩), v13, .int .i64 f, v15, v16, v17, v18, v19, v20, .bool true, v22, v23, v24, v25, v26, v27, v28, v29, v30, v31, v32, v33, v34, v35, v36, v37, v38, v39, v40, v41, v42, v43, v44, v45, v46, v47, v48, v49, v50, v51, v52, v53, v54, v55, v56, v57, v58, v59, v60, v61, v62, v63, v64, v65, v66, v67, v68, v69, v70, v71, v72, v73, v74, v75, v76, v77, v78, v79, v80, v81, v82, v83, v84, v85, v86, v87, v88, v89, v90, v91, v92, v93, v94, v95, v96, v97, v98, v99, v100, v101, v102, v103, v104, v105, v106, v107, v108, v109, v110, v111, v112, v113, v114, v115, v116, v117, v118, v119, v120, v121, v122, v123, v124, v125, v126, v127, v128, v129, v130, v131, v132, v133, v134, v135, v136, v137, v138, v139, v140, v141, v142, v143, v144, v145, v146, v147], []⟩ W := by
  conv => arg 2; whnf
  obtain ⟨ae, ce, hev, _, _⟩ := HM.out.es.slice
  obtain ⟨ao1, cp1, hx, _⟩ := len_of_Ints HM.out.sc.v
  obtain ⟨ao2, cp2, hy, _⟩ := len_of_Ints HM.out.sc.n
  obtain ⟨ao3, cp3, hz, _⟩ := len_of_Ints HM.out.sc.l
  obtain ⟨ao4, cp4, hcx, _⟩ := len_of_Ints HM.out.cf.v
  obtain ⟨ao5, cp5, hcy, _⟩ := len_of_Ints HM.out.cf.n
  obtain ⟨ao6, cp6, hcz, _⟩ := len_of_Ints HM.out.cf.l
  subst hev hx hy hz hcx hcy hcz
  have HS := Lib.hid (ref_isSnapshot k.si k.st _ _ _ k.sc k.sd W HM.out.sc)
  have HCut : Hid (f = 0 → isSnap k.si k.st k.sc k.sd = true → (∀ w1, Below W.heap.size W w1 → Calls Tryz.prog 17 #[.agg (cellsK k (.slice ae k.es.length ce) (.slice ao1 k.sc.v.length cp1) (.slice ao2 k.sc.n.length cp2) (.slice ao3 k.sc.l.length cp3) (.slice ao4 k.cf.v.length cp4) (.slice ao5 k.cf.n.length cp5) (.slice ao6 k.cf.l.length cp6))] w1 fun e w' => ∃ v', e = .returned v' ∧ OwnA w1.heap.size w' v' (cutA (cutD k.t k.v k.c k.es k.si k.st k.sc k.sd)) ∧ Below w1.heap.size w1 w') ∧ (∀ w1, Below W.heap.size W w1 → Calls Tryz.prog 18 #[.agg (cellsK k (.slice ae k.es.length ce) (.slice ao1 k.sc.v.length cp1) (.slice ao2 k.sc.n.length cp2) (.slice ao3 k.sc.l.length cp3) (.slice ao4 k.cf.v.length cp4) (.slice ao5 k.cf.n.length cp5) (.slice ao6 k.cf.l.length cp6))] w1 fun e w' => ∃ v', e = .returned v' ∧ OwnA w1.heap.size w' v' (cutA (cutD k.t k.v k.c k.es k.si k.st k.sc k.sd)) ∧ Below w1.heap.size w1 w')) := by
    show _ → _ → _
    intro h0 hs
    have hi := Hf.out h0
    have hn : k.es.length ≤ 3518437208883 := by have := hi.n; omega
    exact ⟨fun w1 hb => ref_cut k _ _ _ _ _ _ _ _ w1 (Ents.mono HM.out.es hb) (HM.out.sc.mono hb) (HM.out.cf.mono hb) hn hi.t hi.v hi.c hi.ents hs,
      fun w1 hb => cut_wal k _ _ _ _ _ _ _ _ w1 (Ents.mono HM.out.es hb) (HM.out.sc.mono hb) (HM.out.cf.mono hb) hn hi.t hi.v hi.c isSnap_len⟩
  obtain ⟨q, hq⟩ := hide (isSnap k.si k.st k.sc k.sd)
  rw [hq.out] at HS HCut
  obtain ⟨al, hal⟩ := hide (cutA (cutD k.t k.v k.c k.es k.si k.st k.sc k.sd))
  rw [hal.out] at HCut
  have hmb := HM.out.blk
  have d6 := cell_n hmb 6 (v := .int .i64 k.si) rfl
  have d7 := cell_n hmb 7 (v := .int .i64 k.st) rfl
  have d8 := cell_n hmb 8 (v := .slice ao1 k.sc.v.length cp1) rfl
  have d9 := cell_n hmb 9 (v := .slice ao2 k.sc.n.length cp2) rfl
  have d10 := cell_n hmb 10 (v := .slice ao3 k.sc.l.length cp3) rfl
  have d11 := cell_n hmb 11 (v := str k.sd) rfl
  clear hmb
  go_wp2_with fail
  refine HS.out.mono ?_
  rintro e w1 ⟨rfl, hb1⟩
  have Hb1 := Lib.hid hb1
  have H1 := Lib.hid (HM.out.below hb1)
  have HW1 : Hid (Below w.heap.size w w1) := HW.out.trans (hb1.mono HW.out.size)
  have Hq1 := Lib.hid (HP.out w1 HW1.out)
  clear hb1 d6 d7 d8 d9 d10 d11
  dsimp only
  by_cases h0 : f = 0
  · cases q with
    | false =>
      have t0 : (f == 0) = true := by rw [h0]; rfl
      have t1 : (f != 0) = false := by rw [h0]; rfl
      clear h0
      go_wp2_with fail
      exact Hq1.out
    | true =>
      have t0 : (f == 0) = true := by rw [h0]; rfl
      have t1 : (f != 0) = false := by rw [h0]; rfl
      have HC1 := Lib.hid (HCut.out h0 rfl).1
      have HC2 := Lib.hid (HCut.out h0 rfl).2
      clear h0
      go_upto_region 25 with fail
      refine wp_region_lit ?_
      refine wpList_load_row rfl 43 (.tmp 12) rfl M rfl 43 (cellsK k (.slice ae k.es.length ce) (.slice ao1 k.sc.v.length cp1) (.slice ao2 k.sc.n.length cp2) (.slice ao3 k.sc.l.length cp3) (.slice ao4 k.cf.v.length cp4) (.slice ao5 k.cf.n.length cp5) (.slice ao6 k.cf.l.length cp6)) (0, 0) _ H1.out.blk Tryz.underlying43 rfl size_kept ?_
      clear t0 t1
      go_wp2_with fail
      refine (HC1.out w1 Hb1.out).mono ?_
      rintro e w2 ⟨v1, rfl, ho1, hb2⟩
      obtain ⟨b1, c1, rfl⟩ := owns_slice ho1
      have Hb2 := Lib.hid (Hb1.out.trans (hb2.mono Hb1.out.size))
      have H2 := Lib.hid (H1.out.below hb2)
      have HA1 := Lib.hid (OwnA.acs ho1)
      clear hb2 ho1
      dsimp only
      go_upto_region 26 with fail
      refine wp_region_lit ?_
      refine wpList_load_row rfl 43 (.tmp 12) rfl M rfl 43 (cellsK k (.slice ae k.es.length ce) (.slice ao1 k.sc.v.length cp1) (.slice ao2 k.sc.n.length cp2) (.slice ao3 k.sc.l.length cp3) (.slice ao4 k.cf.v.length cp4) (.slice ao5 k.cf.n.length cp5) (.slice ao6 k.cf.l.length cp6)) (0, 0) _ H2.out.blk Tryz.underlying43 rfl size_kept ?_
      go_wp2_with fail
      refine (HC2.out w2 Hb2.out).mono ?_
      rintro e w3 ⟨v2, rfl, ho2, hb3⟩
      obtain ⟨b2, c2, rfl⟩ := owns_slice ho2
      have Hb3 := Lib.hid (Hb2.out.trans (hb3.mono Hb2.out.size))
      have H3 := Lib.hid (H2.out.below hb3)
      have HA2 := Lib.hid (OwnA.acs ho2)
      have HA1' := Lib.hid (Acs.mono HA1.out hb3)
      have HE3 := Lib.hid (same_acts _ _ al _ _ w3 HA2.out HA1'.out)
      clear hb3 ho2
      dsimp only
      go_wp2_with fail
      refine HE3.out.mono ?_
      rintro e w4 ⟨rfl, hb4⟩
      have Hb4 := Lib.hid (Hb3.out.trans (hb4.mono Hb3.out.size))
      have H4 := Lib.hid (H3.out.below hb4)
      have HA4 := Lib.hid (Acs.mono HA1'.out hb4)
      clear hb4
      dsimp only
      go_upto_region 27 with fail
      refine wp_region_lit ?_
      iterate 3 go_step
      refine wpList_load_row rfl 43 (.tmp 12) rfl M rfl 43 (cellsK k (.slice ae k.es.length ce) (.slice ao1 k.sc.v.length cp1) (.slice ao2 k.sc.n.length cp2) (.slice ao3 k.sc.l.length cp3) (.slice ao4 k.cf.v.length cp4) (.slice ao5 k.cf.n.length cp5) (.slice ao6 k.cf.l.length cp6)) (0, 0) _ H4.out.blk Tryz.underlying43 rfl size_kept ?_
      go_wp2_with fail
      refine (HC1.out w4 Hb4.out).mono ?_
      rintro e w5 ⟨v3, rfl, ho5, hb5⟩
      obtain ⟨b5, c5, rfl⟩ := owns_slice ho5
      have Hb5 := Lib.hid (Hb4.out.trans (hb5.mono Hb4.out.size))
      have HA5 := Lib.hid (OwnA.acs ho5)
      have HA5' := Lib.hid (Acs.mono HA4.out hb5)
      have HE5 := Lib.hid (same_acts _ _ al _ _ w5 HA5'.out HA5.out)
      clear hb5 ho5
      dsimp only
      go_wp2_with fail
      refine HE5.out.mono ?_
      rintro e w6 ⟨rfl, hb6⟩
      have Hb6 := Lib.hid (Hb5.out.trans (hb6.mono Hb5.out.size))
      have Hq6 := Lib.hid (HP.out w6 (HW.out.trans (Hb6.out.mono HW.out.size)))
      clear hb6
      dsimp only
      go_wp2_with fail
      exact Hq6.out
  · have t0 : (f == 0) = false := beq_eq_false_iff_ne.2 h0
    have t1 : (f != 0) = true := bne_iff_ne.2 h0
    clear h0
    go_wp2_with fail
    exact Hq1.out
set_option maxHeartbeats 4000000 in
set_option maxRecDepth 100000 in
theorem walx_save {v0 v1 v2 v4 v5 v6 v7 v8 v9 v10 v11 v13 v15 v16 v17 v18 v19 v20 v21 v22 v23 v24 v25 v26 v27 v28 v29 v30 v31 v32 v33 v34 v35 v36 v37 v38 v39 v40 v41 v42 v43 v44 v45 v46 v47 v48 v49 v50 v51 v52 v53 v54 v55 v56 v57 v58 v59 v60 v61 v62 v63 v64 v65 v66 v67 v68 v69 v70 v71 v72 v73 v74 v75 v76 v77 v78 v79 v80 v81 v82 v83 v84 v85 v86 v87 v88 v89 v90 v91 v92 v93 v94 v95 v96 v97 v98 v99 v100 v101 v102 v103 v104 v105 v106 v107 v108 v109 v110 v111 v112 v113 v114 v115 v116 v117 v118 v119 v120 v121 v122 v123 v124 v125 v126 v127 v128 v129 v130 v131 v132 v133 v134 v135 v136 v137 v138 v139 v140 v141 v142 v143 v144 v145 v146 v147 : Value} (w W : World) (post : Ending → World → Prop) (R M : Nat) (r : RP) (rev rx ry rz : Value) (am1 am2 am3 am4 : Option Addr) (n1 n2 n3 n4 k1 k2 k3 k4 : Nat) (k : Kp) (ev x y z cx cy cz : Value) (f : Int)
    (HR : Hid (RAt W R r rev rx ry rz (.slice am1 n1 k1) (.slice am2 n2 k2) (.slice am3 n3 k3) (.slice am4 n4 k4))) (Hmay : Hid (mayB r.t r.v r.c r.es r.si r.st r.sc r.sd = true)) (Hn : Hid (r.es.length ≤ 3518437208780 ∧ r.sc.v.length ≤ 17592186044000 ∧ r.sc.n.length ≤ 17592186044000 ∧ r.sc.l.length ≤ 17592186044000))
    (HM : Hid (KAt W M k ev x y z cx cy cz)) (Hf : Hid (f = 0 → InvK k)) (HW : Hid (Below w.heap.size w W)) (HP : Hid (∀ w', Below w.heap.size w w' → post (.returned (.bool true)) w')) :
    Code.wp Tryz.prog ((Tryz.f3.body.bind (seqAt 15)).getD .skip) (bodyPost Tryz.prog Tryz.f3 post) ⟨#[v0, v1, v2, .pointer (some ⟨R, 0, none⟩), v4, v5, v6, v7, v8, v9, v10, v11, .pointer (some ⟨M, 0, none⟩), v13, .int .i64 f, v15, v16, v17, v18, v19, v20, v21, v22, v23, v24, v25, v26, v27, v28, v29, v30, v31, v32, v33, v34, v35, v36, v37, v38, v39, v40, v41, v42, v43, v44, v45, v46, v47, v48, v49, v50, v51, v52, v53, v54, v55, v56, v57, v58, v59, v60, v61, v62, v63, v64, v65, v66, v67, v68, v69, v70, v71, v72, v73, v74, v75, v76, v77, v78, v79, v80, v81, v82, v83, v84, v85, v86, v87, v88, v89, v90, v91, v92, v93, v94, v95, v96, v97, v98, v99, v100, v101, v102, v103, v104, v105, v106, v107, v108, v109, v110, v111, v112, v113, v114, v115, v116, v117, v118, v119, v120, v121, v122, v123, v124, v125, v126, v127, v128, v129, v130, v131, v132, v133, v134, v135, v136, v137, v138, v139, v140, v141, v142, v143, v144, v145, v146, v147], []⟩ W := by
  conv => arg 2; whnf
  obtain ⟨re, rf, hrev, _, _⟩ := HR.out.es.slice
  obtain ⟨ro1, rp1, hrx, _⟩ := len_of_Ints HR.out.sc.v
  obtain ⟨ro2, rp2, hry, _⟩ := len_of_Ints HR.out.sc.n
  obtain ⟨ro3, rp3, hrz, _⟩ := len_of_Ints HR.out.sc.l
  subst hrev hrx hry hrz
  have hmf : (∀ e ∈ r.es, entOk e = true) ∧ (0 < r.si → isSnap r.si r.st r.sc r.sd = true) ∧ (0 ≤ r.t ∧ r.t ≤ 1099511627775) ∧ (0 ≤ r.v ∧ r.v ≤ 1099511627775) ∧ (0 ≤ r.c ∧ r.c ≤ 1099511627775) := by
    have h := Hmay.out
    simp only [mayB, Bool.and_eq_true, Bool.or_eq_true, decide_eq_true_eq, List.all_eq_true] at h
    obtain ⟨h1, h2, h3, h4, h5, h6, h7, h8⟩ := h
    refine ⟨h1, fun h9 => ?_, ⟨h3, h6⟩, ⟨h4, h7⟩, ⟨h5, h8⟩⟩
    rcases h2 with h2 | h2
    · exact h2
    · omega
  have HSv1 : Hid (Calls Tryz.prog 13 #[.agg (cellsR r.t r.v r.c r.kept (.slice re r.es.length rf) r.si r.st (.slice ro1 r.sc.v.length rp1) (.slice ro2 r.sc.n.length rp2) (.slice ro3 r.sc.l.length rp3) r.sd (.slice am1 n1 k1) (.slice am2 n2 k2) (.slice am3 n3 k3) (.slice am4 n4 k4))] W fun e w' => ∃ v', e = .returned v' ∧ OwnA W.heap.size w' v' (saveA r.kept r.t r.v r.c r.es r.si r.st r.sc r.sd) ∧ Below W.heap.size W w') := ref_save r.t r.v r.c r.kept _ r.es r.si r.st _ _ _ r.sc r.sd am1 am2 am3 am4 n1 n2 n3 n4 k1 k2 k3 k4 _ W HR.out.es HR.out.sc (by have := Hn.out; omega) hmf.2.2.1 hmf.2.2.2.1 hmf.2.2.2.2 hmf.1 hmf.2.1
  have HSv2 : Hid (∀ w1 ev x y z F, Ents F w1 ev r.es → Config3 w1 x y z r.sc → Calls Tryz.prog 4 #[.agg (cellsR r.t r.v r.c r.kept ev r.si r.st x y z r.sd (.slice am1 n1 k1) (.slice am2 n2 k2) (.slice am3 n3 k3) (.slice am4 n4 k4))] w1 fun e w' => ∃ v', e = .returned v' ∧ OwnA w1.heap.size w' v' (saveA r.kept r.t r.v r.c r.es r.si r.st r.sc r.sd) ∧ Below w1.heap.size w1 w') := fun w1 ev x y z F h1 h2 => save_wal r.t r.v r.c r.kept ev r.es r.si r.st x y z r.sc r.sd am1 am2 am3 am4 n1 n2 n3 n4 k1 k2 k3 k4 F w1 h1 h2 (by have := Hn.out; omega) hmf.2.2.1 hmf.2.2.2.1 hmf.2.2.2.2
  obtain ⟨al, hal⟩ := hide (saveA r.kept r.t r.v r.c r.es r.si r.st r.sc r.sd)
  rw [hal.out] at HSv1 HSv2
  clear hmf
  go_upto_region 15 with fail
  refine wp_region_lit ?_
  refine wpList_load_row rfl 33 (.tmp 3) rfl R rfl 33 (cellsR r.t r.v r.c r.kept (.slice re r.es.length rf) r.si r.st (.slice ro1 r.sc.v.length rp1) (.slice ro2 r.sc.n.length rp2) (.slice ro3 r.sc.l.length rp3) r.sd (.slice am1 n1 k1) (.slice am2 n2 k2) (.slice am3 n3 k3) (.slice am4 n4 k4)) (0, 0) _ HR.out.blk Tryz.underlying33 rfl size_ready ?_
  go_wp2_with fail
  refine HSv1.out.mono ?_
  rintro e w1 ⟨v1, rfl, ho1, hb1⟩
  obtain ⟨b1, c1, rfl⟩ := owns_slice ho1
  have Hb1 := Lib.hid hb1
  have HR1 := Lib.hid (HR.out.below hb1)
  have HA1 := Lib.hid (OwnA.acs ho1)
  clear hb1 ho1
  dsimp only
  obtain ⟨V, hV⟩ := hide (w1.alloc (.cells #[.int .i64 r.t, .int .i64 r.v, .int .i64 r.c, .bool r.kept, .slice re r.es.length rf, .int .i64 r.si, .int .i64 r.st, .slice ro1 r.sc.v.length rp1, .slice ro2 r.sc.n.length rp2, .slice ro3 r.sc.l.length rp3, str r.sd, .slice am1 n1 k1, .slice am2 n2 k2, .slice am3 n3 k3, .slice am4 n4 k4] 33))
  obtain ⟨Q, hQ⟩ := hide w1.heap.size
  have hbV : Below w1.heap.size w1 V := by rw [← hV.out]; exact (Below.refl _ _).alloc (Nat.le_refl _) _
  have HbV : Hid (Below W.heap.size W V) := Hb1.out.trans (hbV.mono Hb1.out.size)
  have HRV := Lib.hid (HR1.out.below hbV)
  have HAV := Lib.hid (Acs.mono HA1.out hbV)
  have HQV : Hid (V.heap[Q]? = some (.cells (cellsR r.t r.v r.c r.kept (.slice re r.es.length rf) r.si r.st (.slice ro1 r.sc.v.length rp1) (.slice ro2 r.sc.n.length rp2) (.slice ro3 r.sc.l.length rp3) r.sd (.slice am1 n1 k1) (.slice am2 n2 k2) (.slice am3 n3 k3) (.slice am4 n4 k4)) 33 (0, 0))) := by show _ = _; rw [← hV.out, ← hQ.out]; exact hp_at _ _ rfl
  have HQW : Hid (W.heap.size ≤ Q ∧ R < Q ∧ M < Q) := by
    have h1 := Hb1.out.size
    have h2 := hQ.out
    have h3 := lt_of_block HR.out.blk
    have h4 := lt_of_block HM.out.blk
    exact ⟨by omega, by omega, by omega⟩
  go_upto_region 16 with fail
  refine wp_region_lit ?_
  refine wpList_load_row rfl 33 (.tmp 3) rfl R rfl 33 (cellsR r.t r.v r.c r.kept (.slice re r.es.length rf) r.si r.st (.slice ro1 r.sc.v.length rp1) (.slice ro2 r.sc.n.length rp2) (.slice ro3 r.sc.l.length rp3) r.sd (.slice am1 n1 k1) (.slice am2 n2 k2) (.slice am3 n3 k3) (.slice am4 n4 k4)) (0, 0) _ HR1.out.blk Tryz.underlying33 rfl size_ready ?_
  go_upto_region 17 with fail
  rw [hV.out, hQ.out]
  have hrb := HRV.out.blk
  have d4 := cell_n hrb 4 (v := .slice re r.es.length rf) rfl
  have HEn := Lib.hid (law_entries' _ r.es _ V HRV.out.es (by have := Hn.out; omega))
  have q4 := cell_n HQV.out 4 (v := .slice re r.es.length rf) rfl
  clear hbV hrb
  go_wp2_with fail
  refine HEn.out.mono ?_
  rintro e w2 ⟨a8, c8, rfl, ho8, hb8⟩
  have HR2 := Lib.hid (HRV.out.below hb8)
  have HA2 := Lib.hid (Acs.mono HAV.out hb8)
  have HQ2 : Hid (w2.heap[Q]? = _) := (hb8.block Q (lt_of_block HQV.out)).trans HQV.out
  have Hb2 : Hid (Below W.heap.size W w2) := HbV.out.trans (hb8.mono HbV.out.size)
  have HE99 : Hid (Ents (fun b => V.heap.size ≤ b) w2 (.slice a8 (r.es.length + 1) c8) (r.es ++ [e99])) := by
    have h9 : OwnE V.heap.size w2 (.slice a8 (r.es.length + 1) c8) (r.es ++ [e99]) := by
      show World.ownsRow _ _ _ _ _ _ _
      rw [show (r.es ++ [e99]).length = r.es.length + 1 from by simp]
      exact ho8
    exact OwnE.ents h9
  have HQV8 : Hid (Q < V.heap.size) := lt_of_block HQV.out
  have Hag2 : Hid (Agree (fun b => b < Q) w1 w2) := by
    show Agree _ _ _
    have h1 : Agree (fun b => b < Q) w1 V := by rw [← hV.out]; exact Agree.alloc _ _ _
    exact h1.trans (Agree.below hb8)
  clear hb8 ho8 d4 q4
  dsimp only
  obtain ⟨U, hU⟩ := hide (w2.setCell ⟨Q, 4, none⟩ (.slice a8 r.es.length c8))
  have hcU : Chg (fun b => b = Q) w2 U := by rw [← hU.out]; exact Chg.setCell (F := fun b => b = Q) (a := ⟨Q, 4, none⟩) w2 rfl _
  have HcU := Lib.hid hcU
  have HQU : Hid (U.heap[Q]? = some (.cells (cellsR r.t r.v r.c r.kept (.slice a8 r.es.length c8) r.si r.st (.slice ro1 r.sc.v.length rp1) (.slice ro2 r.sc.n.length rp2) (.slice ro3 r.sc.l.length rp3) r.sd (.slice am1 n1 k1) (.slice am2 n2 k2) (.slice am3 n3 k3) (.slice am4 n4 k4)) 33 (0, 0))) := by show _ = _; rw [← hU.out]; exact at_set HQ2.out _
  clear hcU
  have q4 := cell_n HQ2.out 4 (v := .slice re r.es.length rf) rfl
  have f4 := free_n HQ2.out 4
  go_upto_region 18 with fail
  rw [hU.out]
  clear q4 f4
  -- what stands apart from Q
  have HbU : Hid (Below W.heap.size W U) := Hb2.out.trans (HcU.out.toBelow (fun b hb => by have := HQW.out; omega) Hb2.out.size)
  have HRU := Lib.hid (HR.out.below HbU.out)
  have HCo := Lib.hid (law_conf _ _ _ r.sc U HRU.out.sc Hn.out.2.1 Hn.out.2.2.1 Hn.out.2.2.2)
  have hrb := HRU.out.blk
  have d7 := cell_n hrb 7 (v := .slice ro1 r.sc.v.length rp1) rfl
  have d8 := cell_n hrb 8 (v := .slice ro2 r.sc.n.length rp2) rfl
  have d9 := cell_n hrb 9 (v := .slice ro3 r.sc.l.length rp3) rfl
  clear hrb
  go_wp2_with fail
  refine HCo.out.mono ?_
  rintro e w3 ⟨x9, y9, z9, rfl, hc9, hb9⟩
  obtain ⟨bo1, bp1, hx9, _⟩ := len_of_Ints hc9.conf.v
  obtain ⟨bo2, bp2, hy9, _⟩ := len_of_Ints hc9.conf.n
  obtain ⟨bo3, bp3, hz9, _⟩ := len_of_Ints hc9.conf.l
  subst hx9 hy9 hz9
  have HQ3 : Hid (w3.heap[Q]? = _) := (hb9.block Q (lt_of_block HQU.out)).trans HQU.out
  have Hb3 : Hid (Below W.heap.size W w3) := HbU.out.trans (hb9.mono HbU.out.size)
  have HC3 : Hid (ConfG (fun b => b ≠ Q) w3 (.slice bo1 r.sc.v.length bp1) (.slice bo2 r.sc.n.length bp2) (.slice bo3 r.sc.l.length bp3) r.sc) := ConfG.ofF hc9 (fun b h1 _ e => by have := lt_of_block HQU.out; omega)
  have HE3 : Hid (Ents (fun b => V.heap.size ≤ b) w3 (.slice a8 (r.es.length + 1) c8) (r.es ++ [e99])) := (HE99.out.frame (Plain.good _) ((HcU.out.agree (fun b hb e => by have := HQV8.out; omega)).trans (Agree.below hb9)))
  have HA3 : Hid (Acs (fun b => b < Q) w3 (.slice b1 al.length c1) al) := by
    have h1 : Acs (fun b => b < Q) w1 (.slice b1 al.length c1) al := HA1.out.weak (Plain.good _) (fun b _ h => by have := hQ.out; omega)
    exact h1.frame (Plain.good _) (Hag2.out.trans ((HcU.out.agree (fun b hb e => by omega)).trans (Agree.below hb9)))
  clear hc9 hb9 d7 d8 d9
  dsimp only
  obtain ⟨X, hX⟩ := hide (setFrom w3 Q 7 [.slice bo1 r.sc.v.length bp1, .slice bo2 r.sc.n.length bp2, .slice bo3 r.sc.l.length bp3])
  have hcX : Chg (fun b => b = Q) w3 X := by rw [← hX.out]; exact chg_from Q _ w3 7
  have HQX : Hid (X.heap[Q]? = some (.cells (cellsR r.t r.v r.c r.kept (.slice a8 r.es.length c8) r.si r.st (.slice bo1 r.sc.v.length bp1) (.slice bo2 r.sc.n.length bp2) (.slice bo3 r.sc.l.length bp3) r.sd (.slice am1 n1 k1) (.slice am2 n2 k2) (.slice am3 n3 k3) (.slice am4 n4 k4)) 33 (0, 0))) := by
    show _ = _
    rw [← hX.out]
    exact from_at (vs := [.slice bo1 r.sc.v.length bp1, .slice bo2 r.sc.n.length bp2, .slice bo3 r.sc.l.length bp3]) (i := 7) HQ3.out
  have HbX : Hid (Below W.heap.size W X) := Hb3.out.trans (hcX.toBelow (fun b hb => by have := HQW.out; omega) Hb3.out.size)
  have HCX := Lib.hid (HC3.out.frame (hcX.agree (fun b hb e => hb e)))
  have HEX : Hid (Ents (fun b => V.heap.size ≤ b) X (.slice a8 (r.es.length + 1) c8) (r.es ++ [e99])) := HE3.out.frame (Plain.good _) (hcX.agree (fun b hb e => by have := HQV8.out; omega))
  have HAX : Hid (Acs (fun b => b < Q) X (.slice b1 al.length c1) al) := HA3.out.frame (Plain.good _) (hcX.agree (fun b hb e => by omega))
  have HTX : Hid (Ents (fun b => V.heap.size ≤ b) X (.slice a8 r.es.length c8) r.es) := by
    show Ents _ _ _ _
    have := HEX.out.take (k := r.es.length) (by simp)
    rwa [List.take_left'] at this
    rfl
  have q7 := cell_n HQ3.out 7 (v := .slice ro1 r.sc.v.length rp1) rfl
  have q8 := cell_n HQ3.out 8 (v := .slice ro2 r.sc.n.length rp2) rfl
  have q9 := cell_n HQ3.out 9 (v := .slice ro3 r.sc.l.length rp3) rfl
  have f7 := free_n HQ3.out 7
  have f8 := free_n HQ3.out 8
  have f9 := free_n HQ3.out 9
  clear hcX
  go_upto_region 19 with fail
  show Code.wp _ _ _ _ (setFrom w3 Q 7 [.slice bo1 r.sc.v.length bp1, .slice bo2 r.sc.n.length bp2, .slice bo3 r.sc.l.length bp3])
  rw [hX.out]
  clear q7 q8 q9 f7 f8 f9
  have HSX := Lib.hid (HSv2.out X _ _ _ _ _ HTX.out HCX.out.conf)
  refine wp_region_lit ?_
  refine wpList_load_row rfl 33 (.tmp 20) rfl Q rfl 33 (cellsR r.t r.v r.c r.kept (.slice a8 r.es.length c8) r.si r.st (.slice bo1 r.sc.v.length bp1) (.slice bo2 r.sc.n.length bp2) (.slice bo3 r.sc.l.length bp3) r.sd (.slice am1 n1 k1) (.slice am2 n2 k2) (.slice am3 n3 k3) (.slice am4 n4 k4)) (0, 0) _ HQX.out Tryz.underlying33 rfl size_ready ?_
  go_wp2_with fail
  refine HSX.out.mono ?_
  rintro e w4 ⟨v4, rfl, ho4, hb4⟩
  obtain ⟨b4, c4, rfl⟩ := owns_slice ho4
  have H4 : Hid (Below X.heap.size X w4) := hb4
  have HE4 := Lib.hid (same_acts _ _ al _ _ w4 (OwnA.acs ho4) (Acs.mono HAX.out hb4))
  clear hb4 ho4
  dsimp only
  go_wp2_with fail
  refine HE4.out.mono ?_
  rintro e w5 ⟨rfl, hb5⟩
  have H5 : Hid (Below X.heap.size X w5) := H4.out.trans (hb5.mono H4.out.size)
  have Hb5 : Hid (Below W.heap.size W w5) := HbX.out.trans (H5.out.mono HbX.out.size)
  have HQ5 : Hid (w5.heap[Q]? = _) := (H5.out.block Q (lt_of_block HQX.out)).trans HQX.out
  have HR5 := Lib.hid (HR.out.below Hb5.out)
  have HH := Lib.hid (law_heldEntries a8 c8 _ r.es _ _ w5 (Ents.mono HEX.out H5.out) HR5.out.es)
  clear hb5
  have q4 := cell_n HQ5.out 4 (v := .slice a8 r.es.length c8) rfl
  have d4 := cell_n HR5.out.blk 4 (v := .slice re r.es.length rf) rfl
  dsimp only
  go_wp2_with fail
  refine HH.out.mono ?_
  rintro e w6 ⟨rfl, hb6⟩
  have Hb6 : Hid (Below W.heap.size W w6) := Hb5.out.trans (hb6.mono Hb5.out.size)
  have HM6 := Lib.hid (HM.out.below Hb6.out)
  have HW6 : Hid (Below w.heap.size w w6) := HW.out.trans (Hb6.out.mono HW.out.size)
  clear hb6 q4 d4
  dsimp only
  go_upto_region 21 with fail
  iterate 20 (first | done | exact walx_cut w w6 post M k ev x y z cx cy cz f HM6 Hf HW6 HP | go_step)
end Go.Proofs.YtjlhlmnoomiblaaGreat
