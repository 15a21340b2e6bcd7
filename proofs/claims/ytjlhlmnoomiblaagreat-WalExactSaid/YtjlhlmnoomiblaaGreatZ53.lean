/-
  WalExact in plain words: the law.
-/
import Derived.Test.YtjlhlmnoomiblaaGreatZ52
namespace Go.Proofs.YtjlhlmnoomiblaaGreat
open Go.RowKit Wm Mm Lg Fl
set_option linter.unusedVariables false
set_option linter.unusedSimpArgs false

set_option maxHeartbeats 4000000 in
set_option maxRecDepth 100000 in
theorem walx_may {v0 v1 v2 v4 v5 v6 v7 v8 v9 v10 v11 v13 v15 v16 v17 v18 v19 v20 v21 v22 v23 v24 v25 v26 v27 v28 v29 v30 v31 v32 v33 v34 v35 v36 v37 v38 v39 v40 v41 v42 v43 v44 v45 v46 v47 v48 v49 v50 v51 v52 v53 v54 v55 v56 v57 v58 v59 v60 v61 v62 v63 v64 v65 v66 v67 v68 v69 v70 v71 v72 v73 v74 v75 v76 v77 v78 v79 v80 v81 v82 v83 v84 v85 v86 v87 v88 v89 v90 v91 v92 v93 v94 v95 v96 v97 v98 v99 v100 v101 v102 v103 v104 v105 v106 v107 v108 v109 v110 v111 v112 v113 v114 v115 v116 v117 v118 v119 v120 v121 v122 v123 v124 v125 v126 v127 v128 v129 v130 v131 v132 v133 v134 v135 v136 v137 v138 v139 v140 v141 v142 v143 v144 v145 v146 v147 : Value} (w W : World) (post : Ending → World → Prop) (R M : Nat) (r : RP) (rev rx ry rz : Value) (am1 am2 am3 am4 : Option Addr) (n1 n2 n3 n4 k1 k2 k3 k4 : Nat) (k : Kp) (ev x y z cx cy cz : Value) (f : Int)
    (HR : Hid (RAt W R r rev rx ry rz (.slice am1 n1 k1) (.slice am2 n2 k2) (.slice am3 n3 k3) (.slice am4 n4 k4))) (Hn : Hid (r.es.length ≤ 3518437208780 ∧ r.sc.v.length ≤ 17592186044000 ∧ r.sc.n.length ≤ 17592186044000 ∧ r.sc.l.length ≤ 17592186044000))
    (HM : Hid (KAt W M k ev x y z cx cy cz)) (Hf : Hid (f = 0 → InvK k)) (HW : Hid (Below w.heap.size w W)) (HP : Hid (∀ w', Below w.heap.size w w' → post (.returned (.bool true)) w')) :
    Code.wp Tryz.prog ((Tryz.f3.body.bind (seqAt 12)).getD .skip) (bodyPost Tryz.prog Tryz.f3 post) ⟨#[v0, v1, v2, .pointer (some ⟨R, 0, none⟩), v4, v5, v6, v7, v8, v9, v10, v11, .pointer (some ⟨M, 0, none⟩), v13, .int .i64 f, v15, v16, v17, v18, v19, v20, v21, v22, v23, v24, v25, v26, v27, v28, v29, v30, v31, v32, v33, v34, v35, v36, v37, v38, v39, v40, v41, v42, v43, v44, v45, v46, v47, v48, v49, v50, v51, v52, v53, v54, v55, v56, v57, v58, v59, v60, v61, v62, v63, v64, v65, v66, v67, v68, v69, v70, v71, v72, v73, v74, v75, v76, v77, v78, v79, v80, v81, v82, v83, v84, v85, v86, v87, v88, v89, v90, v91, v92, v93, v94, v95, v96, v97, v98, v99, v100, v101, v102, v103, v104, v105, v106, v107, v108, v109, v110, v111, v112, v113, v114, v115, v116, v117, v118, v119, v120, v121, v122, v123, v124, v125, v126, v127, v128, v129, v130, v131, v132, v133, v134, v135, v136, v137, v138, v139, v140, v141, v142, v143, v144, v145, v146, v147], []⟩ W := by
  conv => arg 2; whnf
  obtain ⟨re, rf, hrev, _, _⟩ := HR.out.es.slice
  obtain ⟨ro1, rp1, hrx, _⟩ := len_of_Ints HR.out.sc.v
  obtain ⟨ro2, rp2, hry, _⟩ := len_of_Ints HR.out.sc.n
  obtain ⟨ro3, rp3, hrz, _⟩ := len_of_Ints HR.out.sc.l
  subst hrev hrx hry hrz
  have HMy := Lib.hid (may_keep r.t r.v r.c r.kept _ r.es r.si r.st _ _ _ r.sc r.sd am1 am2 am3 am4 n1 n2 n3 n4 k1 k2 k3 k4 _ W HR.out.es HR.out.sc (by have := Hn.out; omega))
  have Hmay : Hid (∀ q, mayB r.t r.v r.c r.es r.si r.st r.sc r.sd = q → (q = true → mayB r.t r.v r.c r.es r.si r.st r.sc r.sd = true)) := fun q h h2 => h.trans h2
  obtain ⟨q, hq⟩ := hide (mayB r.t r.v r.c r.es r.si r.st r.sc r.sd)
  rw [hq.out] at HMy
  go_upto_region 12 with fail
  refine wp_region_lit ?_
  refine wpList_load_row rfl 33 (.tmp 3) rfl R rfl 33 (cellsR r.t r.v r.c r.kept (.slice re r.es.length rf) r.si r.st (.slice ro1 r.sc.v.length rp1) (.slice ro2 r.sc.n.length rp2) (.slice ro3 r.sc.l.length rp3) r.sd (.slice am1 n1 k1) (.slice am2 n2 k2) (.slice am3 n3 k3) (.slice am4 n4 k4)) (0, 0) _ HR.out.blk Tryz.underlying33 rfl size_ready ?_
  go_wp2_with fail
  refine HMy.out.mono ?_
  rintro e w1 ⟨rfl, hb1⟩
  have HR1 := Lib.hid (HR.out.below hb1)
  have HM1 := Lib.hid (HM.out.below hb1)
  have HW1 : Hid (Below w.heap.size w w1) := HW.out.trans (hb1.mono HW.out.size)
  have Hq1 := Lib.hid (HP.out w1 HW1.out)
  clear hb1
  dsimp only
  cases q with
  | false =>
    go_wp2_with fail
    exact Hq1.out
  | true =>
    have Hm2 := Lib.hid (Hmay.out true hq.out rfl)
    go_upto_if 93 with fail
    iterate 20 (first | done | exact walx_save w w1 post R M r _ _ _ _ am1 am2 am3 am4 n1 n2 n3 n4 k1 k2 k3 k4 k ev x y z cx cy cz f HR1 Hm2 Hn HM1 Hf HW1 HP | go_step)
theorem known_save : saveA true 1 0 0 [] 0 0 noC [] = [⟨2, nLog, [], [4, 1, 1, 0, 0, 1, 115, 99, 48], 0⟩, ⟨3, nLog, [], [], 0⟩] := by
  have h : saveD true 1 0 0 [] = [4, 1, 1, 0, 0, 1, 115, 99, 48] := by decide +kernel
  unfold saveA
  rw [h]
  rfl
theorem own_two {S : Nat} {w : World} {a : Option Addr} {n c : Nat} {x y : ActP} (h : OwnA S w (.slice a n c) [x, y]) : ∃ g, a = some ⟨g, 0, none⟩ ∧ n = 2 ∧ w.cell? ⟨g, 3, none⟩ = some (str x.dat) := by
  rcases h.2 with ⟨_, h0⟩ | ⟨g, cap, cur, hv, hb, hg, hn, hc, hs, ht⟩
  · cases h0
  · injection hv with e1 e2 e3
    subst e1 e2 e3
    exact ⟨g, rfl, rfl, own_cell h (i := 3) rfl⟩
set_option maxHeartbeats 8000000 in
set_option maxRecDepth 100000 in
theorem law_walExact (r : RP) (rev rx ry rz : Value) (am1 am2 am3 am4 : Option Addr) (n1 n2 n3 n4 k1 k2 k3 k4 : Nat) (fv : Value) (l : List FileP) (a b d : Value) (c : Conf) (F : Nat → Prop) (w : World) (hE : Ents (fun _ => True) w rev r.es) (hs : Config3 w rx ry rz r.sc) (hF : Fls F w fv l) (hc : Config3 w a b d c)
    (hn : r.es.length ≤ 3518437208780 ∧ r.sc.v.length ≤ 17592186044000 ∧ r.sc.n.length ≤ 17592186044000 ∧ r.sc.l.length ≤ 17592186044000) (hn2 : c.v.length ≤ 17592186044000 ∧ c.n.length ≤ 17592186044000 ∧ c.l.length ≤ 17592186044000) (hl : l.length ≤ 4398046511000) (hd : ∀ f ∈ l, f.dat.length ≤ 4611686018427387904) :
    Calls Tryz.prog 3 #[.agg (cellsR r.t r.v r.c r.kept rev r.si r.st rx ry rz r.sd (.slice am1 n1 k1) (.slice am2 n2 k2) (.slice am3 n3 k3) (.slice am4 n4 k4)), fv, .agg #[a, b, d]] w fun e w' => e = .returned (.bool true) ∧ Below w.heap.size w w' := by
  obtain ⟨post, HPP⟩ := hide (fun (e : Ending) (w' : World) => e = .returned (.bool true) ∧ Below w.heap.size w w')
  rw [HPP.out]
  have HP : Hid (∀ w', Below w.heap.size w w' → post (.returned (.bool true)) w') := by
    show ∀ w', _ → _
    intro w' h
    rw [← HPP.out]
    exact ⟨rfl, h⟩
  clear HPP
  obtain ⟨re, rf, rfl, _, _⟩ := hE.slice
  obtain ⟨ro1, rp1, rfl, _⟩ := len_of_Ints hs.v
  obtain ⟨ro2, rp2, rfl, _⟩ := len_of_Ints hs.n
  obtain ⟨ro3, rp3, rfl, _⟩ := len_of_Ints hs.l
  obtain ⟨fo, fc, rfl, hfc, _⟩ := hF.slice
  obtain ⟨co1, xp1, rfl, _⟩ := len_of_Ints hc.v
  obtain ⟨co2, xp2, rfl, _⟩ := len_of_Ints hc.n
  obtain ⟨co3, xp3, rfl, _⟩ := len_of_Ints hc.l
  obtain ⟨m1, hm1⟩ := hide c.v.length
  obtain ⟨m2, hm2⟩ := hide c.n.length
  obtain ⟨m3, hm3⟩ := hide c.l.length
  obtain ⟨W, hW⟩ := hide ((w.alloc (.cells #[.int .i64 r.t, .int .i64 r.v, .int .i64 r.c, .bool r.kept, .slice re r.es.length rf, .int .i64 r.si, .int .i64 r.st, .slice ro1 r.sc.v.length rp1, .slice ro2 r.sc.n.length rp2, .slice ro3 r.sc.l.length rp3, str r.sd, .slice am1 n1 k1, .slice am2 n2 k2, .slice am3 n3 k3, .slice am4 n4 k4] 33)).alloc (.cells #[.slice co1 c.v.length xp1, .slice co2 c.n.length xp2, .slice co3 c.l.length xp3] 27))
  obtain ⟨R, hR⟩ := hide w.heap.size
  obtain ⟨C, hC⟩ := hide (w.heap.size + 1)
  have hb : Below w.heap.size w W := by rw [← hW.out]; exact ((Below.refl _ _).alloc (Nat.le_refl _) _).alloc (by simp) _
  have HRB : Hid (W.heap[R]? = some (.cells (cellsR r.t r.v r.c r.kept (.slice re r.es.length rf) r.si r.st (.slice ro1 r.sc.v.length rp1) (.slice ro2 r.sc.n.length rp2) (.slice ro3 r.sc.l.length rp3) r.sd (.slice am1 n1 k1) (.slice am2 n2 k2) (.slice am3 n3 k3) (.slice am4 n4 k4)) 33 (0, 0))) := by show _ = _; rw [← hW.out, ← hR.out]; exact (hp_past _ _ (by simp)).trans (hp_at _ _ rfl)
  have HCB : Hid (W.heap[C]? = some (.cells #[.slice co1 c.v.length xp1, .slice co2 c.n.length xp2, .slice co3 c.l.length xp3] 27 (0, 0))) := by show _ = _; rw [← hW.out, ← hC.out]; exact hp_at _ _ (by simp)
  have HR : Hid (RAt W R r (.slice re r.es.length rf) (.slice ro1 r.sc.v.length rp1) (.slice ro2 r.sc.n.length rp2) (.slice ro3 r.sc.l.length rp3) (.slice am1 n1 k1) (.slice am2 n2 k2) (.slice am3 n3 k3) (.slice am4 n4 k4)) := ⟨HRB.out, Ents.mono hE hb, hs.mono hb⟩
  have Hc : Hid (∀ w', Below W.heap.size W w' → Config3 w' (.slice co1 c.v.length xp1) (.slice co2 c.n.length xp2) (.slice co3 c.l.length xp3) c) := fun w' h => hc.mono (hb.trans (h.mono hb.size))
  have HF : Hid (∀ w', Below W.heap.size W w' → Fls F w' (.slice fo l.length fc) l) := fun w' h => hF.frame (Plain.good _) (Agree.below (hb.trans (h.mono hb.size)))
  have HW := Lib.hid hb
  have Hn := Lib.hid hn
  have Hn2 := Lib.hid hn2
  have Hl := Lib.hid hl
  have Hd := Lib.hid hd
  have HSv := Lib.hid (save_wal 1 0 0 true (.slice none 0 0) [] 0 0 (.slice none 0 0) (.slice none 0 0) (.slice none 0 0) noC [] none none none none 0 0 0 0 0 0 0 0 _ W (OwnE.ents (World.ownsRow_nil _ 0 _ _)) (Config3.nil W) (by simp) (by simp) (by simp) (by simp))
  rw [known_save] at HSv
  obtain ⟨kd, hkd⟩ := hide ([4, 1, 1, 0, 0, 1, 115, 99, 48] : List UInt8)
  have hkl : kd.length = 9 := by rw [← hkd.out]; rfl
  have hkt : (kd.take 5 == [4, 1, 1, 0, 0]) = true := by rw [← hkd.out]; rfl
  rw [hkd.out] at HSv
  have Hkl := Lib.hid hkl
  have Hkt := Lib.hid hkt
  clear hE hs hF hc hn hn2 hl hd hb hfc hkl hkt
  go_enter Tryz.func3, Tryz.ntmps3
  go_upto_region 1 with fail
  rw [hW.out, hC.out, hR.out]
  go_wp2_with fail
  refine HSv.out.mono ?_
  rintro e w1 ⟨v1, rfl, ho1, hb1⟩
  obtain ⟨b1, c1, rfl⟩ := owns_slice ho1
  obtain ⟨g1, rfl, hn1, c3⟩ := own_two ho1
  have Hb1 := Lib.hid hb1
  have hkl := Hkl.out
  have hkt := Hkt.out
  have hk5 : 5 ≤ kd.length := by omega
  clear ho1 hb1 hn1
  dsimp only at c3
  dsimp only
  go_upto_region 4 with fail
  clear c3 hkl hkt hk5
  have HFo := Lib.hid (filesOf_law _ l F w1 (HF.out w1 Hb1.out) Hl.out)
  go_wp2_with fail
  refine HFo.out.mono ?_
  rintro e w2 ⟨v2, rfl, ho2, hb2⟩
  obtain ⟨b2, c2, rfl⟩ := owns_slice ho2
  have Hb2 : Hid (Below W.heap.size W w2) := Hb1.out.trans (hb2.mono Hb1.out.size)
  have HI2 := Lib.hid (OwnF.fls ho2)
  have HCB2 : Hid (w2.heap[C]? = _) := (Hb2.out.block C (lt_of_block HCB.out)).trans HCB.out
  have HCf := Lib.hid (law_conf _ _ _ c w2 (Hc.out w2 Hb2.out) Hn2.out.1 Hn2.out.2.1 Hn2.out.2.2)
  have e0 := cell_n HCB2.out 0 (v := .slice co1 c.v.length xp1) rfl
  have e1 := cell_n HCB2.out 1 (v := .slice co2 c.n.length xp2) rfl
  have e2 := cell_n HCB2.out 2 (v := .slice co3 c.l.length xp3) rfl
  clear ho2 hb2
  dsimp only
  go_wp2_with fail
  refine HCf.out.mono ?_
  rintro e w3 ⟨x3, y3, z3, rfl, hc3, hb3⟩
  obtain ⟨do1, dp1, hx3, _⟩ := len_of_Ints hc3.conf.v
  obtain ⟨do2, dp2, hy3, _⟩ := len_of_Ints hc3.conf.n
  obtain ⟨do3, dp3, hz3, _⟩ := len_of_Ints hc3.conf.l
  subst hx3 hy3 hz3
  have Hb3 : Hid (Below W.heap.size W w3) := Hb2.out.trans (hb3.mono Hb2.out.size)
  have HI3 : Hid (Fls _ w3 _ l) := HI2.out.frame (Plain.good _) (Agree.below hb3)
  have HO1 := Lib.hid (open_wal _ l _ _ _ c _ w3 HI3.out hc3.conf Hd.out (by have := Hl.out; omega))
  clear hb3 hc3 e0 e1 e2
  dsimp only
  go_wp2_with fail
  refine HO1.out.mono ?_
  intro e w4 hop
  obtain ⟨ev4, x4, y4, z4, cx4, cy4, cz4, av4, rfl, hE4, hs4, hcf4, hA4, hb4⟩ := hop.plain
  clear hop
  have Hinv0 : Hid (∀ oo, openP l c = oo → zO oo = 0 → InvK (kO oo)) := by
    show ∀ oo, _ → _ → _
    intro oo ho h
    cases oo with
    | none => cases h
    | some p => exact openP_inv ho
  obtain ⟨oo, hoo⟩ := hide (openP l c)
  have Hinv := Lib.hid (Hinv0.out oo hoo.out)
  rw [hoo.out] at hE4 hs4 hcf4 hA4 ⊢
  obtain ⟨k, hk⟩ := hide (kO oo)
  obtain ⟨al, hal⟩ := hide (aO oo)
  obtain ⟨zz, hzz⟩ := hide (zO oo)
  rw [hk.out] at hE4 hs4 hcf4 Hinv ⊢
  rw [hal.out] at hA4
  rw [hzz.out] at Hinv ⊢
  obtain ⟨pe, pf, hep, _, _⟩ := hE4.slice
  obtain ⟨p1, pp1, h1p, _⟩ := len_of_Ints hs4.v
  obtain ⟨p2, pp2, h2p, _⟩ := len_of_Ints hs4.n
  obtain ⟨p3, pp3, h3p, _⟩ := len_of_Ints hs4.l
  obtain ⟨p4, pp4, h4p, _⟩ := len_of_Ints hcf4.v
  obtain ⟨p5, pp5, h5p, _⟩ := len_of_Ints hcf4.n
  obtain ⟨p6, pp6, h6p, _⟩ := len_of_Ints hcf4.l
  subst hep h1p h2p h3p h4p h5p h6p
  obtain ⟨sa4, sb4, hav, _, _⟩ := hA4.slice
  subst hav
  have Hb4 : Hid (Below W.heap.size W w4) := Hb3.out.trans (hb4.mono Hb3.out.size)
  obtain ⟨V, hV⟩ := hide (w4.alloc (.cells #[.int .i64 k.t, .int .i64 k.v, .int .i64 k.c, .int .i64 k.base, .int .i64 k.bt, .slice pe k.es.length pf, .int .i64 k.si, .int .i64 k.st, .slice p1 k.sc.v.length pp1, .slice p2 k.sc.n.length pp2, .slice p3 k.sc.l.length pp3, str k.sd, .slice p4 k.cf.v.length pp4, .slice p5 k.cf.n.length pp5, .slice p6 k.cf.l.length pp6] 43))
  obtain ⟨K1, hK1⟩ := hide w4.heap.size
  have hbV : Below w4.heap.size w4 V := by rw [← hV.out]; exact (Below.refl _ _).alloc (Nat.le_refl _) _
  have HbV : Hid (Below W.heap.size W V) := Hb4.out.trans (hbV.mono Hb4.out.size)
  have HKV : Hid (KAt V K1 k (.slice pe k.es.length pf) (.slice p1 k.sc.v.length pp1) (.slice p2 k.sc.n.length pp2) (.slice p3 k.sc.l.length pp3) (.slice p4 k.cf.v.length pp4) (.slice p5 k.cf.n.length pp5) (.slice p6 k.cf.l.length pp6)) := ⟨by rw [← hV.out, ← hK1.out]; exact hp_at _ _ rfl, Ents.mono hE4 hbV, hs4.mono hbV, hcf4.mono hbV⟩
  have HAV := Lib.hid (Acs.mono hA4 hbV)
  have HIV : Hid (Fls _ V _ l) := (HI3.out.frame (Plain.good _) (Agree.below hb4)).frame (Plain.good _) (Agree.below hbV)
  clear hE4 hs4 hcf4 hA4 hb4 hbV
  dsimp only
  go_upto_region 6 with fail
  rw [hV.out, hK1.out]
  have HCBV : Hid (V.heap[C]? = _) := (HbV.out.block C (lt_of_block HCB.out)).trans HCB.out
  have e0 := cell_n HCBV.out 0 (v := .slice co1 c.v.length xp1) rfl
  have e1 := cell_n HCBV.out 1 (v := .slice co2 c.n.length xp2) rfl
  have e2 := cell_n HCBV.out 2 (v := .slice co3 c.l.length xp3) rfl
  have HO2 := Lib.hid (ref_open _ l _ _ _ c F V (HF.out V HbV.out) (Hc.out V HbV.out) Hd.out (by have := Hl.out; omega))
  go_wp2_with fail
  refine HO2.out.mono ?_
  intro e w5 hop
  obtain ⟨ev5, x5, y5, z5, cx5, cy5, cz5, av5, rfl, hE5, hs5, hcf5, hA5, hb5⟩ := hop.plain
  rw [hoo.out, hk.out] at hE5 hs5 hcf5
  rw [hoo.out, hal.out] at hA5
  rw [hoo.out, hk.out, hzz.out]
  clear hop e0 e1 e2
  obtain ⟨qe, qf, heq, _, _⟩ := hE5.slice
  obtain ⟨q1, qp1, h1q, _⟩ := len_of_Ints hs5.v
  obtain ⟨q2, qp2, h2q, _⟩ := len_of_Ints hs5.n
  obtain ⟨q3, qp3, h3q, _⟩ := len_of_Ints hs5.l
  obtain ⟨q4, qp4, h4q, _⟩ := len_of_Ints hcf5.v
  obtain ⟨q5, qp5, h5q, _⟩ := len_of_Ints hcf5.n
  obtain ⟨q6, qp6, h6q, _⟩ := len_of_Ints hcf5.l
  subst heq h1q h2q h3q h4q h5q h6q
  obtain ⟨sa5, sb5, hav, _, _⟩ := hA5.slice
  subst hav
  have Hb5 : Hid (Below W.heap.size W w5) := HbV.out.trans (hb5.mono HbV.out.size)
  obtain ⟨U, hU⟩ := hide (w5.alloc (.cells #[.int .i64 k.t, .int .i64 k.v, .int .i64 k.c, .int .i64 k.base, .int .i64 k.bt, .slice qe k.es.length qf, .int .i64 k.si, .int .i64 k.st, .slice q1 k.sc.v.length qp1, .slice q2 k.sc.n.length qp2, .slice q3 k.sc.l.length qp3, str k.sd, .slice q4 k.cf.v.length qp4, .slice q5 k.cf.n.length qp5, .slice q6 k.cf.l.length qp6] 43))
  obtain ⟨M, hM⟩ := hide w5.heap.size
  have hbU : Below w5.heap.size w5 U := by rw [← hU.out]; exact (Below.refl _ _).alloc (Nat.le_refl _) _
  have HbU : Hid (Below W.heap.size W U) := Hb5.out.trans (hbU.mono Hb5.out.size)
  have HMU : Hid (KAt U M k (.slice qe k.es.length qf) (.slice q1 k.sc.v.length qp1) (.slice q2 k.sc.n.length qp2) (.slice q3 k.sc.l.length qp3) (.slice q4 k.cf.v.length qp4) (.slice q5 k.cf.n.length qp5) (.slice q6 k.cf.l.length qp6)) := ⟨by rw [← hU.out, ← hM.out]; exact hp_at _ _ rfl, Ents.mono hE5 hbU, hs5.mono hbU, hcf5.mono hbU⟩
  have HA5 := Lib.hid (Acs.mono hA5 hbU)
  have HA4 := Lib.hid (Acs.mono (Acs.mono HAV.out hb5) hbU)
  have HKU := Lib.hid ((HKV.out.below hb5).below hbU)
  have HIU : Hid (Fls _ U _ l) := (HIV.out.frame (Plain.good _) (Agree.below hb5)).frame (Plain.good _) (Agree.below hbU)
  clear hE5 hs5 hcf5 hA5 hb5 hbU
  dsimp only
  go_upto_region 7 with fail
  rw [hU.out, hM.out]
  have HSF := Lib.hid (same_fls _ _ l _ F U HIU.out (HF.out U HbU.out))
  go_wp2_with fail
  refine HSF.out.mono ?_
  rintro e w6 ⟨rfl, hb6⟩
  have Hb6 : Hid (Below W.heap.size W w6) := HbU.out.trans (hb6.mono HbU.out.size)
  have HK6 := Lib.hid (HKU.out.below hb6)
  have HM6 := Lib.hid (HMU.out.below hb6)
  have HA46 := Lib.hid (Acs.mono HA4.out hb6)
  have HA56 := Lib.hid (Acs.mono HA5.out hb6)
  have HSK := Lib.hid (same_kept k _ _ _ _ _ _ _ _ _ _ _ _ _ _ _ _ w6 HK6.out.es HM6.out.es HK6.out.sc HM6.out.sc HK6.out.cf HM6.out.cf)
  clear hb6
  dsimp only
  go_upto_region 8 with fail
  refine wp_region_lit ?_
  refine wpList_load_row rfl 43 (.tmp 9) rfl K1 rfl 43 (cellsK k (.slice pe k.es.length pf) (.slice p1 k.sc.v.length pp1) (.slice p2 k.sc.n.length pp2) (.slice p3 k.sc.l.length pp3) (.slice p4 k.cf.v.length pp4) (.slice p5 k.cf.n.length pp5) (.slice p6 k.cf.l.length pp6)) (0, 0) _ HK6.out.blk Tryz.underlying43 rfl size_kept ?_
  refine wpList_load_row rfl 43 (.tmp 12) rfl M rfl 43 (cellsK k (.slice qe k.es.length qf) (.slice q1 k.sc.v.length qp1) (.slice q2 k.sc.n.length qp2) (.slice q3 k.sc.l.length qp3) (.slice q4 k.cf.v.length qp4) (.slice q5 k.cf.n.length qp5) (.slice q6 k.cf.l.length qp6)) (0, 0) _ HM6.out.blk Tryz.underlying43 rfl size_kept ?_
  go_wp2_with fail
  refine HSK.out.mono ?_
  rintro e w7 ⟨rfl, hb7⟩
  have Hb7 : Hid (Below W.heap.size W w7) := Hb6.out.trans (hb7.mono Hb6.out.size)
  have HM7 := Lib.hid (HM6.out.below hb7)
  have HSA := Lib.hid (same_acts _ _ al _ _ w7 (Acs.mono HA46.out hb7) (Acs.mono HA56.out hb7))
  clear hb7
  dsimp only
  go_wp2_with fail
  refine HSA.out.mono ?_
  rintro e w8 ⟨rfl, hb8⟩
  have Hb8 : Hid (Below W.heap.size W w8) := Hb7.out.trans (hb8.mono Hb7.out.size)
  have HM8 := Lib.hid (HM7.out.below hb8)
  have HR8 := Lib.hid (HR.out.below Hb8.out)
  have HW8 : Hid (Below w.heap.size w w8) := HW.out.trans (Hb8.out.mono HW.out.size)
  clear hb8
  dsimp only
  have tz : (zz == zz) = true := beq_self_eq_true zz
  have tz2 : (zz != zz) = false := by rw [bne, tz]; rfl
  go_upto_if 89 with fail
  iterate 20 (first | done | exact walx_may w w8 post R M r _ _ _ _ am1 am2 am3 am4 n1 n2 n3 n4 k1 k2 k3 k4 k _ _ _ _ _ _ _ zz HR8 Hn HM8 Hinv HW8 HP | go_step)
end Go.Proofs.YtjlhlmnoomiblaaGreat
