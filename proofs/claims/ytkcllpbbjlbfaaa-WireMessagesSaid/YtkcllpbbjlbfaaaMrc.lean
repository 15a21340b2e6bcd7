/-
  The document: are two snapshots the same? The document: may a message be? Its end: entries. The document: may a message be? From what it says of its kind on.
-/
import Derived.Test.YtkcllpbbjlbfaaaMse
import Derived.Test.YtkcllpbbjlbfaaaPce
import Derived.Deep.DeepCutAuto
import Derived.Deep.CutRange
namespace Go.Proofs.Ytkcllpbbjlbfaaa
open Go.RowKit Wm Mm Lg
set_option linter.unusedVariables false
set_option linter.unusedSimpArgs false

set_option maxHeartbeats 2000000 in
theorem ref_sameSnap (i t : Int) (x y z : Value) (c : Conf) (d : List UInt8) (i' t' : Int) (x' y' z' : Value) (c' : Conf) (d' : List UInt8) (w : World) (hc : Config3 w x y z c) (hc' : Config3 w x' y' z' c') :
    Calls Try.prog 37 #[vSnap i t x y z d, vSnap i' t' x' y' z' d'] w fun e w' => e = .returned (.bool (sameSnapB i t c d i' t' c' d')) ∧ Below w.heap.size w w' := by
  obtain ⟨post, HP⟩ := hide (fun (e : Ending) (w' : World) => e = .returned (.bool (sameSnapB i t c d i' t' c' d')) ∧ Below w.heap.size w w')
  rw [HP.out]
  obtain ⟨ax, cx, rfl, _⟩ := len_of_Ints hc.v
  obtain ⟨ay, cy, rfl, _⟩ := len_of_Ints hc.n
  obtain ⟨az, cz, rfl, _⟩ := len_of_Ints hc.l
  obtain ⟨ax', cx', rfl, _⟩ := len_of_Ints hc'.v
  obtain ⟨ay', cy', rfl, _⟩ := len_of_Ints hc'.n
  obtain ⟨az', cz', rfl, _⟩ := len_of_Ints hc'.l
  obtain ⟨W, hW⟩ := hide ((w.alloc (.cells #[.int .i64 i, .int .i64 t, .slice ax c.v.length cx, .slice ay c.n.length cy, .slice az c.l.length cz, str d] 27)).alloc (.cells #[.int .i64 i', .int .i64 t', .slice ax' c'.v.length cx', .slice ay' c'.n.length cy', .slice az' c'.l.length cz', str d'] 27))
  have hb1 : Below w.heap.size w W := by rw [← hW.out]; exact ((Below.refl _ _).alloc (Nat.le_refl _) _).alloc (by simp) _
  have hx : W.heap[w.heap.size]? = some (.cells #[.int .i64 i, .int .i64 t, .slice ax c.v.length cx, .slice ay c.n.length cy, .slice az c.l.length cz, str d] 27 (0, 0)) := by rw [← hW.out]; exact (hp_past _ _ (by simp)).trans (hp_at _ _ rfl)
  have hy : W.heap[w.heap.size + 1]? = some (.cells #[.int .i64 i', .int .i64 t', .slice ax' c'.v.length cx', .slice ay' c'.n.length cy', .slice az' c'.l.length cz', str d'] 27 (0, 0)) := by rw [← hW.out]; exact hp_at _ _ (by simp)
  have HI := Lib.hid (ref_sameConfig _ _ _ _ _ _ c c' W (hc.mono hb1) (hc'.mono hb1))
  obtain ⟨r1, hr1⟩ := hide (i == i')
  obtain ⟨r2, hr2⟩ := hide (t == t')
  obtain ⟨r3, hr3⟩ := hide (d == d')
  obtain ⟨r4, hr4⟩ := hide (sameConf c c')
  rw [hr4.out] at HI
  have Hp : Hid (∀ q w', Below W.heap.size W w' → (r1 && (r2 && (r3 && r4))) = q → post (.returned (.bool q)) w') := by
    show ∀ q w', _ → _ → _
    intro q w' hw hq
    rw [← HP.out, ← hq, ← hr1.out, ← hr2.out, ← hr3.out, ← hr4.out]
    exact ⟨rfl, hb1.trans (hw.mono hb1.size)⟩
  obtain ⟨B, hB⟩ := hide w.heap.size
  rw [hB.out] at hx hy
  have HX := Lib.hid (And.intro hx hy)
  have a0 := cell_n hx 0 (v := .int .i64 i) rfl
  have a1 := cell_n hx 1 (v := .int .i64 t) rfl
  have a2 := cell_n hx 2 (v := .slice ax c.v.length cx) rfl
  have a3 := cell_n hx 3 (v := .slice ay c.n.length cy) rfl
  have a4 := cell_n hx 4 (v := .slice az c.l.length cz) rfl
  have a5 := cell_n hx 5 (v := str d) rfl
  have b0 := cell_n hy 0 (v := .int .i64 i') rfl
  have b1 := cell_n hy 1 (v := .int .i64 t') rfl
  have b2 := cell_n hy 2 (v := .slice ax' c'.v.length cx') rfl
  have b3 := cell_n hy 3 (v := .slice ay' c'.n.length cy') rfl
  have b4 := cell_n hy 4 (v := .slice az' c'.l.length cz') rfl
  have b5 := cell_n hy 5 (v := str d') rfl
  have q1 : (i == i') = r1 := hr1.out
  have q2 : (t == t') = r2 := hr2.out
  have q3 : (d == d') = r3 := hr3.out
  clear hb1 hx hy hc hc'
  go_enter Try.func37, Try.ntmps37
  go_upto_region 1 with fail
  rw [hW.out, hB.out]
  go_wp2_with fail
  refine HI.out.mono ?_
  rintro e w1 ⟨rfl, hb⟩
  have Hb := Lib.hid hb
  have hx := (hb.block _ (lt_of_block HX.out.1)).trans HX.out.1
  have hy := (hb.block _ (lt_of_block HX.out.2)).trans HX.out.2
  clear hb a0 a1 a2 a3 a4 a5 b0 b1 b2 b3 b4 b5
  have a0 := cell_n hx 0 (v := .int .i64 i) rfl
  have a1 := cell_n hx 1 (v := .int .i64 t) rfl
  have a2 := cell_n hx 2 (v := .slice ax c.v.length cx) rfl
  have a3 := cell_n hx 3 (v := .slice ay c.n.length cy) rfl
  have a4 := cell_n hx 4 (v := .slice az c.l.length cz) rfl
  have a5 := cell_n hx 5 (v := str d) rfl
  have b0 := cell_n hy 0 (v := .int .i64 i') rfl
  have b1 := cell_n hy 1 (v := .int .i64 t') rfl
  have b2 := cell_n hy 2 (v := .slice ax' c'.v.length cx') rfl
  have b3 := cell_n hy 3 (v := .slice ay' c'.n.length cy') rfl
  have b4 := cell_n hy 4 (v := .slice az' c'.l.length cz') rfl
  have b5 := cell_n hy 5 (v := str d') rfl
  clear hx hy
  dsimp only
  cases r4 with
  | false =>
    have Hq := Lib.hid (Hp.out _ w1 Hb.out (by simp : _ = false))
    go_wp2_with fail
    exact Hq.out
  | true =>
  cases r1 with
  | false =>
    have Hq := Lib.hid (Hp.out _ w1 Hb.out rfl)
    go_wp2_with fail
    exact Hq.out
  | true =>
  cases r2 with
  | false =>
    have Hq := Lib.hid (Hp.out _ w1 Hb.out rfl)
    go_wp2_with fail
    exact Hq.out
  | true =>
    have Hq := Lib.hid (Hp.out _ w1 Hb.out (by simp : _ = r3))
    cases r3
    all_goals
      go_wp2_with fail
      exact Hq.out
end Go.Proofs.Ytkcllpbbjlbfaaa

namespace Go.Proofs.Ytkcllpbbjlbfaaa
open Go.RowKit Wm Mm Lg
set_option linter.unusedVariables false
set_option linter.unusedSimpArgs false

set_option maxHeartbeats 4000000 in
set_option maxRecDepth 100000 in
theorem msgR_ents {v0 v2 v3 v4 v5 v6 v7 v8 v9 v10 v11 v12 v13 v14 v15 v16 v17 v18 v19 v20 v21 v22 v23 v24 v25 v26 v27 v28 v29 v30 v31 v32 v33 v34 v35 v36 v37 v38 v39 v40 v41 v42 v43 v44 v45 v46 v47 v48 v49 v50 v51 v52 v53 v54 v55 v56 v57 v58 v59 v60 v61 v62 v63 v64 v65 v66 v67 v68 v69 v70 v71 v72 v73 v74 v75 v76 v77 v78 v79 v80 v81 v82 v83 v84 v85 v86 v87 v88 v89 v90 v91 v92 v93 v94 v95 v96 v97 v98 v99 v100 v101 v102 v103 v104 v105 v106 v107 v108 v109 v110 v111 v112 v113 v114 v115 v116 v117 v118 v119 v120 v121 v122 v123 v124 v125 v126 v127 v128 v129 v130 v131 v132 v133 v134 v135 v136 v137 v138 v139 v140 v141 v142 v143 v144 v145 v146 v147 v148 v149 v150 v151 v152 v153 v154 v155 v156 v157 v158 v159 v160 v161 v162 v163 v164 v165 v166 v167 v168 v169 v170 v171 v172 v173 v174 v175 v176 v177 v178 v179 v180 v181 v182 v183 v184 v185 v186 v187 v188 v189 v190 v191 v192 v193 v194 v195 v196 v197 v198 v199 v200 v201 v202 v203 v204 v205 v206 v207 v208 v209 v210 v211 v212 v213 v214 v215 v216 v217 v218 v219 v220 v221 v222 v223 v224 v225 v226 v227 v228 v229 v230 v231 v232 v233 v234 v235 v236 v237 v238 v239 v240 v241 v242 v243 v244 v245 v246 v247 v248 v249 v250 v251 v252 v253 v254 v255 v256 v257 v258 v259 v260 v261 v262 v263 v264 v265 v266 v267 v268 v269 v270 v271 v272 v273 v274 v275 v276 v277 v278 v279 v280 v281 v282 v283 v284 v285 v286 v287 v288 v289 v290 v291 v292 v293 v294 v295 v296 v297 v298 v299 v300 v301 v302 v303 v304 : Value} (m : Msg) (W : World) (B : Nat) (ae ax ay az : Option Addr) (ce cx cy cz : Nat) (G : Nat → Prop)
    (HB : Hid (∀ w', Below W.heap.size W w' → w'.heap[B]? = some (.cells (rowMsg m (.slice ae m.ents.length ce) (.slice ax m.sc.v.length cx) (.slice ay m.sc.n.length cy) (.slice az m.sc.l.length cz)).toArray 29 (0, 0)))) (HE : Hid (∀ w', Below W.heap.size W w' → Ents G w' (.slice ae m.ents.length ce) m.ents)) (HC : Hid (∀ w', Below W.heap.size W w' → Config3 w' (.slice ax m.sc.v.length cx) (.slice ay m.sc.n.length cy) (.slice az m.sc.l.length cz) m.sc))
    (post : Ending → World → Prop) (Hp : Hid (∀ b w', Below W.heap.size W w' → (decide (m.ents.length ≤ 8) && (decide (m.logTerm ≤ m.term) && followB m.ents m.index m.logTerm m.term)) = b → post (.returned (.bool b)) w')) (hi1 : 0 ≤ m.index) (hi2 : m.index ≤ 1099511627775) :
    Code.wp Try.prog ((Try.f16.body.bind (seqAt 28)).getD .skip) (bodyPost Try.prog Try.f16 post) ⟨#[v0, .pointer (some ⟨B, 0, none⟩), v2, v3, v4, v5, v6, v7, v8, v9, v10, v11, v12, v13, v14, v15, v16, v17, v18, v19, v20, v21, v22, v23, v24, v25, v26, v27, v28, v29, v30, v31, v32, v33, v34, v35, v36, v37, v38, v39, v40, v41, v42, v43, v44, v45, v46, v47, v48, v49, v50, v51, v52, v53, v54, v55, v56, v57, v58, v59, v60, v61, v62, v63, v64, v65, v66, v67, v68, v69, v70, v71, v72, v73, v74, v75, v76, v77, v78, v79, v80, v81, v82, v83, v84, v85, v86, v87, v88, v89, v90, v91, v92, v93, v94, v95, v96, v97, v98, v99, v100, v101, v102, v103, v104, v105, v106, v107, v108, v109, v110, v111, v112, v113, v114, v115, v116, v117, v118, v119, v120, v121, v122, v123, v124, v125, v126, v127, v128, v129, v130, v131, v132, v133, v134, v135, v136, v137, v138, v139, v140, v141, v142, v143, v144, v145, v146, v147, v148, v149, v150, v151, v152, v153, v154, v155, v156, v157, v158, v159, v160, v161, v162, v163, v164, v165, v166, v167, v168, v169, v170, v171, v172, v173, v174, v175, v176, v177, v178, v179, v180, v181, v182, v183, v184, v185, v186, v187, v188, v189, v190, v191, v192, v193, v194, v195, v196, v197, v198, v199, v200, v201, v202, v203, v204, v205, v206, v207, v208, v209, v210, v211, v212, v213, v214, v215, v216, v217, v218, v219, v220, v221, v222, v223, v224, v225, v226, v227, v228, v229, v230, v231, v232, v233, v234, v235, v236, v237, v238, v239, v240, v241, v242, v243, v244, v245, v246, v247, v248, v249, v250, v251, v252, v253, v254, v255, v256, v257, v258, v259, v260, v261, v262, v263, v264, v265, v266, v267, v268, v269, v270, v271, v272, v273, v274, v275, v276, v277, v278, v279, v280, v281, v282, v283, v284, v285, v286, v287, v288, v289, v290, v291, v292, v293, v294, v295, v296, v297, v298, v299, v300, v301, v302, v303, v304], []⟩ W := by
  conv => arg 2; whnf
  have H0 : Hid (Below W.heap.size W W) := Below.refl _ _
  have a3 : W.cell? ⟨B, 3, none⟩ = some (.int .i64 m.term) := cell_n (HB.out _ H0.out) 3 rfl
  have a4 : W.cell? ⟨B, 4, none⟩ = some (.int .i64 m.index) := cell_n (HB.out _ H0.out) 4 rfl
  have a5 : W.cell? ⟨B, 5, none⟩ = some (.int .i64 m.logTerm) := cell_n (HB.out _ H0.out) 5 rfl
  have a7 : W.cell? ⟨B, 7, none⟩ = some (.slice ae m.ents.length ce) := cell_n (HB.out _ H0.out) 7 rfl
  by_cases h8 : m.ents.length ≤ 8
  case neg =>
    have t1 : decide (8 < m.ents.length) = true := decide_eq_true (by omega)
    have t2 : decide ((8 : Int) < (m.ents.length : Int)) = true := decide_eq_true (by omega)
    have Hq := Lib.hid (Hp.out false W H0.out (by rw [decide_eq_false h8]; rfl))
    clear h8
    go_wp2_with fail
    first | exact Hq.out | (go_ret; exact Hq.out)
  case pos =>
  have e8 := decide_eq_true h8
  rw [e8] at Hp
  by_cases hl : m.logTerm ≤ m.term
  case neg =>
    have t1 : decide (8 < m.ents.length) = false := decide_eq_false (by omega)
    have t2 : decide ((8 : Int) < (m.ents.length : Int)) = false := decide_eq_false (by omega)
    have t3 : decide (m.term < m.logTerm) = true := decide_eq_true (by omega)
    have Hq := Lib.hid (Hp.out false W H0.out (by rw [decide_eq_false hl]; rfl))
    clear h8 hl e8
    go_wp2_with fail
    first | exact Hq.out | (go_ret; exact Hq.out)
  case pos =>
  have el := decide_eq_true hl
  rw [el] at Hp
  have Hp2 : Hid (∀ b w', Below W.heap.size W w' → followB m.ents m.index m.logTerm m.term = b → post (.returned (.bool b)) w') := fun b w' h1 h2 => Hp.out b w' h1 (by rw [h2]; cases b <;> rfl)
  have t1 : decide (8 < m.ents.length) = false := decide_eq_false (by omega)
  have t2 : decide ((8 : Int) < (m.ents.length : Int)) = false := decide_eq_false (by omega)
  have t3 : decide (m.term < m.logTerm) = false := decide_eq_false (by omega)
  clear e8 el hl
  go_wp2_with fail
  clear a3 a4 a5 a7 t1 t2 t3
  go_loopw [12, 13] (fun c12 c13 wr => ∃ (k : Nat) (low : Int), c13 = .int .i64 (k : Int) ∧ c12 = .int .i64 low ∧ k ≤ m.ents.length ∧ Hid (followB m.ents m.index m.logTerm m.term = followB (m.ents.drop k) (m.index + (k : Int)) low m.term) ∧ Hid (Below W.heap.size W wr)) (fun _ i _ => m.ents.length - (intOf i).toNat)
  case atStart => exact ⟨0, m.logTerm, rfl, rfl, Nat.zero_le _, by show _ = _; simp, H0⟩
  case round =>
    obtain ⟨k, low, rfl, rfl, hk, HF, HW⟩ := hrel
    obtain ⟨V0, hV0⟩ : ∃ V, V = wr := ⟨_, rfl⟩
    subst hV0
    have a7 : V0.cell? ⟨B, 7, none⟩ = some (.slice ae m.ents.length ce) := cell_n (HB.out _ HW.out) 7 rfl
    by_cases hlt : k < m.ents.length
    · obtain ⟨b, off, us, rfl, -, -, hus, hcs⟩ := (HE.out _ HW.out).at hlt
      have e1 : us = rowE m.ents[k] := hus
      subst e1
      have m0 := hcs 0 _ rfl
      have m1 := hcs 1 _ rfl
      have m2 := hcs 2 _ rfl
      have m3 := hcs 3 _ rfl
      rw [Nat.add_zero] at m0
      have hfd := follow_drop hlt (m.index + (k : Int)) low m.term
      clear hus hcs
      obtain ⟨y, hy⟩ := hide m.ents[k]
      rw [hy.out] at hfd m0 m1 m2 m3
      obtain ⟨n, hn⟩ := hide m.ents.length
      have hk9 : k < 8 := by omega
      have hkn : k < n := by rw [← hn.out]; exact hlt
      obtain ⟨r1, hr1⟩ := hide (isEntry y.idx y.trm y.knd y.dat)
      obtain ⟨r2, hr2⟩ := hide (decide (y.idx = m.index + (k : Int) + 1))
      obtain ⟨r3, hr3⟩ := hide (decide (low ≤ y.trm))
      obtain ⟨r4, hr4⟩ := hide (decide (y.trm ≤ m.term))
      have K := fun w1 => ref_isEntry y.idx y.trm y.knd y.dat w1
      rw [hr1.out] at K
      rw [hr1.out, hr2.out, hr3.out, hr4.out] at hfd
      have HFD := Lib.hid (HF.out.trans hfd)
      have HK := Lib.hid K
      have q2 : (y.idx == m.index + 1 + (k : Int)) = r2 := by rw [← hr2.out, show m.index + (k : Int) + 1 = m.index + 1 + (k : Int) from by omega]; rfl
      have q2b : (y.idx != m.index + 1 + (k : Int)) = !r2 := by rw [← q2]; rfl
      have q3 : decide (y.trm < low) = !r3 := by rw [← hr3.out]; by_cases h : low ≤ y.trm <;> simp [h] <;> omega
      have q4 : decide (m.term < y.trm) = !r4 := by rw [← hr4.out]; by_cases h : y.trm ≤ m.term <;> simp [h] <;> omega
      have hi3 : m.index + 1 ≤ 1099511627776 := by omega
      clear hfd hr1 hr2 hr3 hr4 hy K HF
      obtain ⟨V1, hV1⟩ := hide (V0.alloc (.cells #[.int .i64 y.idx, .int .i64 y.trm, .int .i64 y.knd, str y.dat] 40))
      obtain ⟨C, hC⟩ := hide V0.heap.size
      have hc1 : V1.heap[C]? = some (.cells #[.int .i64 y.idx, .int .i64 y.trm, .int .i64 y.knd, str y.dat] 40 (0, 0)) := by rw [← hV1.out, ← hC.out]; exact hp_at _ _ rfl
      have H1 : Hid (Below W.heap.size W V1) := by show Below _ _ _; rw [← hV1.out]; exact HW.out.alloc HW.out.size _
      have HC1 := Lib.hid hc1
      rw [hn.out] at a7
      clear hlt
      go_upto_region 35 with fail
      rw [hV1.out, hC.out]
      have d0 := cell_n hc1 0 (v := .int .i64 y.idx) rfl
      have d1 := cell_n hc1 1 (v := .int .i64 y.trm) rfl
      have d2 := cell_n hc1 2 (v := .int .i64 y.knd) rfl
      have d3 := cell_n hc1 3 (v := str y.dat) rfl
      clear hc1 m0 m1 m2 m3 a7
      go_wp2_with fail
      refine (HK.out V1).mono ?_
      rintro e w2 ⟨rfl, hw2⟩
      have hb12 : Below V1.heap.size V1 w2 := by rw [← hw2]; exact (Below.refl _ _).alloc (Nat.le_refl _) _
      have H2 : Hid (Below W.heap.size W w2) := H1.out.trans (hb12.mono H1.out.size)
      have hc2 := (hb12.block C (lt_of_block HC1.out)).trans HC1.out
      clear d0 d1 d2 d3 hb12 hw2
      have d0 := cell_n hc2 0 (v := .int .i64 y.idx) rfl
      have d1 := cell_n hc2 1 (v := .int .i64 y.trm) rfl
      clear hc2
      have a3 : w2.cell? ⟨B, 3, none⟩ = some (.int .i64 m.term) := cell_n (HB.out _ H2.out) 3 rfl
      have a4 : w2.cell? ⟨B, 4, none⟩ = some (.int .i64 m.index) := cell_n (HB.out _ H2.out) 4 rfl
      dsimp only
      cases r1 with
      | false =>
        have Hq := Lib.hid (Hp2.out false w2 H2.out HFD.out)
        go_wp2_with fail
        first | exact Hq.out | (go_ret; exact Hq.out)
      | true =>
      cases r2 with
      | false =>
        have Hq := Lib.hid (Hp2.out false w2 H2.out HFD.out)
        go_wp2_with fail
        first | exact Hq.out | (go_ret; exact Hq.out)
      | true =>
      cases r3 with
      | false =>
        have Hq := Lib.hid (Hp2.out false w2 H2.out HFD.out)
        go_wp2_with fail
        first | exact Hq.out | (go_ret; exact Hq.out)
      | true =>
      cases r4 with
      | false =>
        have Hq := Lib.hid (Hp2.out false w2 H2.out HFD.out)
        go_wp2_with fail
        first | exact Hq.out | (go_ret; exact Hq.out)
      | true =>
      have HF2 : Hid (followB m.ents m.index m.logTerm m.term = followB (m.ents.drop (k + 1)) (m.index + ((k + 1 : Nat) : Int)) y.trm m.term) := by
        show _ = _
        rw [HFD.out, show m.index + ((k + 1 : Nat) : Int) = m.index + (k : Int) + 1 from by omega]; rfl
      have hk2 : k + 1 ≤ m.ents.length := by rw [hn.out]; exact hkn
      have Hme : Hid (n - (k + 1) < n - k) := by show _ < _; omega
      go_wp2_with fail
      go_roundw
      case rel => exact ⟨k + 1, y.trm, by go_num, rfl, hk2, HF2, H2⟩
      case measure => simp [intOf]; omega
    · have hkn : k = m.ents.length := by omega
      have hft : followB m.ents m.index m.logTerm m.term = true := by rw [HF.out, hkn, List.drop_length]; rfl
      have Hq := Lib.hid (Hp2.out true _ HW.out hft)
      have t0 : decide (k < m.ents.length) = false := decide_eq_false hlt
      clear hlt hkn hft
      go_wp2_with fail
      first | exact Hq.out | (go_ret; exact Hq.out)
end Go.Proofs.Ytkcllpbbjlbfaaa

namespace Go.Proofs.Ytkcllpbbjlbfaaa
open Go.RowKit Wm Mm Lg
set_option linter.unusedVariables false
set_option linter.unusedSimpArgs false

set_option maxHeartbeats 4000000 in
set_option maxRecDepth 100000 in
theorem msgR_body {v0 v2 v9 v10 v11 v12 v13 v14 v15 v16 v17 v18 v19 v20 v21 v22 v23 v24 v25 v26 v27 v28 v29 v30 v31 v32 v33 v34 v35 v36 v37 v38 v39 v40 v41 v42 v43 v44 v45 v46 v47 v48 v49 v50 v51 v52 v53 v54 v55 v56 v57 v58 v59 v60 v61 v62 v63 v64 v65 v66 v67 v68 v69 v70 v71 v72 v73 v74 v75 v76 v77 v78 v79 v80 v81 v82 v83 v84 v85 v86 v87 v88 v89 v90 v91 v92 v93 v94 v95 v96 v97 v98 v99 v100 v101 v102 v103 v104 v105 v106 v107 v108 v109 v110 v111 v112 v113 v114 v115 v116 v117 v118 v119 v120 v121 v122 v123 v124 v125 v126 v127 v128 v129 v130 v131 v132 v133 v134 v135 v136 v137 v138 v139 v140 v141 v142 v143 v144 v145 v146 v147 v148 v149 v150 v151 v152 v153 v154 v155 v156 v157 v158 v159 v160 v161 v162 v163 v164 v165 v166 v167 v168 v169 v170 v171 v172 v173 v174 v175 v176 v177 v178 v179 v180 v181 v182 v183 v184 v185 v186 v187 v188 v189 v190 v191 v192 v193 v194 v195 v196 v197 v198 v199 v200 v201 v202 v203 v204 v205 v206 v207 v208 v209 v210 v211 v212 v213 v214 v215 v216 v217 v218 v219 v220 v221 v222 v223 v224 v225 v226 v227 v228 v229 v230 v231 v232 v233 v234 v235 v236 v237 v238 v239 v240 v241 v242 v243 v244 v245 v246 v247 v248 v249 v250 v251 v252 v253 v254 v255 v256 v257 v258 v259 v260 v261 v262 v263 v264 v265 v266 v267 v268 v269 v270 v271 v272 v273 v274 v275 v276 v277 v278 v279 v280 v281 v282 v283 v284 v285 v286 v287 v288 v289 v290 v291 v292 v293 v294 v295 v296 v297 v298 v299 v300 v301 v302 v303 v304 : Value} (m : Msg) (W : World) (B : Nat) (ae ax ay az : Option Addr) (ce cx cy cz : Nat) (G : Nat → Prop)
    (HB : Hid (∀ w', Below W.heap.size W w' → w'.heap[B]? = some (.cells (rowMsg m (.slice ae m.ents.length ce) (.slice ax m.sc.v.length cx) (.slice ay m.sc.n.length cy) (.slice az m.sc.l.length cz)).toArray 29 (0, 0)))) (HE : Hid (∀ w', Below W.heap.size W w' → Ents G w' (.slice ae m.ents.length ce) m.ents)) (HC : Hid (∀ w', Below W.heap.size W w' → Config3 w' (.slice ax m.sc.v.length cx) (.slice ay m.sc.n.length cy) (.slice az m.sc.l.length cz) m.sc))
    (post : Ending → World → Prop) (Hp : Hid (∀ b w', Below W.heap.size W w' → (bodyM m) = b → post (.returned (.bool b)) w')) (hi1 : 0 ≤ m.index) (hi2 : m.index ≤ 1099511627775) (a r p b i z : Bool) (ha : Hid (askB m.kind = a)) (hr : Hid (repB m.kind = r)) (hp : Hid ((m.kind == 5) = p)) (hb : Hid ((m.kind == 6) = b)) (hi : Hid ((m.kind == 7) = i)) (hz : Hid (noneS m = z)) :
    Code.wp Try.prog ((Try.f16.body.bind (seqAt 21)).getD .skip) (bodyPost Try.prog Try.f16 post) ⟨#[v0, .pointer (some ⟨B, 0, none⟩), v2, .bool z, .bool a, .bool r, .bool p, .bool b, .bool i, v9, v10, v11, v12, v13, v14, v15, v16, v17, v18, v19, v20, v21, v22, v23, v24, v25, v26, v27, v28, v29, v30, v31, v32, v33, v34, v35, v36, v37, v38, v39, v40, v41, v42, v43, v44, v45, v46, v47, v48, v49, v50, v51, v52, v53, v54, v55, v56, v57, v58, v59, v60, v61, v62, v63, v64, v65, v66, v67, v68, v69, v70, v71, v72, v73, v74, v75, v76, v77, v78, v79, v80, v81, v82, v83, v84, v85, v86, v87, v88, v89, v90, v91, v92, v93, v94, v95, v96, v97, v98, v99, v100, v101, v102, v103, v104, v105, v106, v107, v108, v109, v110, v111, v112, v113, v114, v115, v116, v117, v118, v119, v120, v121, v122, v123, v124, v125, v126, v127, v128, v129, v130, v131, v132, v133, v134, v135, v136, v137, v138, v139, v140, v141, v142, v143, v144, v145, v146, v147, v148, v149, v150, v151, v152, v153, v154, v155, v156, v157, v158, v159, v160, v161, v162, v163, v164, v165, v166, v167, v168, v169, v170, v171, v172, v173, v174, v175, v176, v177, v178, v179, v180, v181, v182, v183, v184, v185, v186, v187, v188, v189, v190, v191, v192, v193, v194, v195, v196, v197, v198, v199, v200, v201, v202, v203, v204, v205, v206, v207, v208, v209, v210, v211, v212, v213, v214, v215, v216, v217, v218, v219, v220, v221, v222, v223, v224, v225, v226, v227, v228, v229, v230, v231, v232, v233, v234, v235, v236, v237, v238, v239, v240, v241, v242, v243, v244, v245, v246, v247, v248, v249, v250, v251, v252, v253, v254, v255, v256, v257, v258, v259, v260, v261, v262, v263, v264, v265, v266, v267, v268, v269, v270, v271, v272, v273, v274, v275, v276, v277, v278, v279, v280, v281, v282, v283, v284, v285, v286, v287, v288, v289, v290, v291, v292, v293, v294, v295, v296, v297, v298, v299, v300, v301, v302, v303, v304], []⟩ W := by
  conv => arg 2; whnf
  have H0 : Hid (Below W.heap.size W W) := Below.refl _ _
  have a3 : W.cell? ⟨B, 3, none⟩ = some (.int .i64 m.term) := cell_n (HB.out _ H0.out) 3 rfl
  have a4 : W.cell? ⟨B, 4, none⟩ = some (.int .i64 m.index) := cell_n (HB.out _ H0.out) 4 rfl
  have a5 : W.cell? ⟨B, 5, none⟩ = some (.int .i64 m.logTerm) := cell_n (HB.out _ H0.out) 5 rfl
  have a7 : W.cell? ⟨B, 7, none⟩ = some (.slice ae m.ents.length ce) := cell_n (HB.out _ H0.out) 7 rfl
  have a8 : W.cell? ⟨B, 8, none⟩ = some (.int .i64 m.si) := cell_n (HB.out _ H0.out) 8 rfl
  have a9 : W.cell? ⟨B, 9, none⟩ = some (.int .i64 m.st) := cell_n (HB.out _ H0.out) 9 rfl
  have a10 : W.cell? ⟨B, 10, none⟩ = some (.slice ax m.sc.v.length cx) := cell_n (HB.out _ H0.out) 10 rfl
  have a11 : W.cell? ⟨B, 11, none⟩ = some (.slice ay m.sc.n.length cy) := cell_n (HB.out _ H0.out) 11 rfl
  have a12 : W.cell? ⟨B, 12, none⟩ = some (.slice az m.sc.l.length cz) := cell_n (HB.out _ H0.out) 12 rfl
  have a13 : W.cell? ⟨B, 13, none⟩ = some (str m.sd) := cell_n (HB.out _ H0.out) 13 rfl
  by_cases h5 : m.kind = 5
  case pos =>
    obtain rfl : a = false := by rw [← ha.out, h5]; rfl
    obtain rfl : p = true := by rw [← hp.out, h5]; rfl
    obtain rfl : i = false := by rw [← hi.out, h5]; rfl
    have hbd : bodyM m = (decide (m.ents.length ≤ 8) && (((m.index == 0) == (m.logTerm == 0)) && (decide (m.logTerm ≤ m.term) && followB m.ents m.index m.logTerm m.term))) := by rw [bodyM, if_pos h5]
    have Hbd := Lib.hid hbd
    obtain ⟨x0, hx0⟩ := hide (m.index == 0)
    obtain ⟨x1, hx1⟩ := hide (m.logTerm == 0)
    rw [hx0.out, hx1.out] at Hbd
    have q0 := hx0.out
    have q1 := hx1.out
    clear h5 hbd
    cases x0 <;> cases x1
    case true.false =>
      have Hq := Lib.hid (Hp.out false W H0.out (by rw [Hbd.out]; simp))
      go_wp2_with fail
      first | exact Hq.out | (go_ret; exact Hq.out)
    case false.true =>
      have Hq := Lib.hid (Hp.out false W H0.out (by rw [Hbd.out]; simp))
      go_wp2_with fail
      first | exact Hq.out | (go_ret; exact Hq.out)
    all_goals
      have Hb2 : Hid (bodyM m = (decide (m.ents.length ≤ 8) && (decide (m.logTerm ≤ m.term) && followB m.ents m.index m.logTerm m.term))) := by show _ = _; rw [Hbd.out]; simp
      go_upto_if 250 with (fail)
      iterate 12 (first | done | exact msgR_ents m W B ae ax ay az ce cx cy cz G (fun w' h => HB.out w' (H0.out.trans (h.mono H0.out.size))) (fun w' h => HE.out w' (H0.out.trans (h.mono H0.out.size))) (fun w' h => HC.out w' (H0.out.trans (h.mono H0.out.size))) post (fun b w' h0 h2 => have h1 := H0.out.trans (h0.mono H0.out.size); Hp.out b w' h1 (Hb2.out.trans h2)) hi1 hi2 | go_step)
  case neg =>
  obtain rfl : p = false := by rw [← hp.out]; simpa using h5
  by_cases hk : m.kind = 1 ∨ m.kind = 3
  case pos =>
    obtain rfl : a = true := by rw [← ha.out]; rcases hk with h | h <;> rw [h] <;> rfl
    obtain rfl : i = false := by rw [← hi.out]; rcases hk with h | h <;> rw [h] <;> rfl
    have hbd : bodyM m = ((m.index == 0) == (m.logTerm == 0)) := by rw [bodyM, if_neg h5, if_pos hk]
    have Hbd := Lib.hid hbd
    obtain ⟨x0, hx0⟩ := hide (m.index == 0)
    obtain ⟨x1, hx1⟩ := hide (m.logTerm == 0)
    rw [hx0.out, hx1.out] at Hbd
    have q0 := hx0.out
    have q1 := hx1.out
    clear h5 hbd hk
    cases x0 <;> cases x1
    all_goals
      have Hq := Lib.hid (Hp.out _ W H0.out Hbd.out)
      clear Hbd
      go_wp2_with fail
      first | exact Hq.out | (go_ret; exact Hq.out)
  case neg =>
  obtain rfl : a = false := by rw [← ha.out, askB]; simp; omega
  by_cases h7 : m.kind = 7
  case pos =>
    obtain rfl : i = true := by rw [← hi.out, h7]; rfl
    have hbd : bodyM m = (isSnap m.si m.st m.sc m.sd && decide (m.st ≤ m.term)) := by rw [bodyM, if_neg h5, if_neg hk, if_pos h7]
    have Hbd := Lib.hid hbd
    have K := ref_isSnapshot m.si m.st (.slice ax m.sc.v.length cx) (.slice ay m.sc.n.length cy) (.slice az m.sc.l.length cz) m.sc m.sd W (HC.out _ H0.out)
    obtain ⟨x0, hx0⟩ := hide (isSnap m.si m.st m.sc m.sd)
    obtain ⟨x1, hx1⟩ := hide (decide (m.st ≤ m.term))
    rw [hx0.out] at K
    rw [hx0.out, hx1.out] at Hbd
    have K := Lib.hid K
    have q1 := hx1.out
    clear h5 hbd hk h7
    go_wp2_with fail
    refine K.out.mono ?_
    rintro e w2 ⟨rfl, hb2⟩
    have H2 : Hid (Below W.heap.size W w2) := hb2
    clear hb2 K a3 a4 a5 a7 a8 a9 a10 a11 a12 a13
    dsimp only
    have a3 : w2.cell? ⟨B, 3, none⟩ = some (.int .i64 m.term) := cell_n (HB.out _ H2.out) 3 rfl
    have a9 : w2.cell? ⟨B, 9, none⟩ = some (.int .i64 m.st) := cell_n (HB.out _ H2.out) 9 rfl
    cases x0 <;> cases x1
    all_goals
      have Hq := Lib.hid (Hp.out _ w2 H2.out Hbd.out)
      clear Hbd
      go_wp2_with fail
      first | exact Hq.out | (go_ret; exact Hq.out)
  case neg =>
  obtain rfl : i = false := by rw [← hi.out]; simpa using h7
  have hbd : bodyM m = true := by rw [bodyM, if_neg h5, if_neg hk, if_neg h7]
  have Hq := Lib.hid (Hp.out _ W H0.out hbd)
  clear h5 hbd hk h7
  go_wp2_with fail
  first | exact Hq.out | (go_ret; exact Hq.out)
theorem plainM_eq (m : Msg) : plainM m = (!(((((((m.index != 0) && !askB m.kind) && !(m.kind == 5)) && !(m.kind == 6)) || (((m.logTerm != 0) && !askB m.kind) && !(m.kind == 5))) || ((m.commit != 0) && !(m.kind == 5))) || (decide (0 < m.ents.length) && !(m.kind == 5))) && !(((((m.rej && !repB m.kind) && !(m.kind == 6)) || ((m.hint != 0) && !(m.kind == 6))) || ((((m.ctx != 0) && !(m.kind == 5)) && !(m.kind == 6)) && !(m.kind == 7))) || (!noneS m && !(m.kind == 7)))) := by
  unfold plainM
  have e1 : (m.index == 0) = !(m.index != 0) := by simp [bne]
  have e2 : (m.logTerm == 0) = !(m.logTerm != 0) := by simp [bne]
  have e3 : (m.commit == 0) = !(m.commit != 0) := by simp [bne]
  have e4 : decide (m.ents.length = 0) = !(decide (0 < m.ents.length)) := by by_cases h : m.ents.length = 0 <;> simp [h] <;> omega
  have e5 : (m.hint == 0) = !(m.hint != 0) := by simp [bne]
  have e6 : (m.ctx == 0) = !(m.ctx != 0) := by simp [bne]
  rw [e1, e2, e3, e4, e5, e6]
  generalize (m.index != 0) = nx
  generalize (m.logTerm != 0) = lx
  generalize (m.commit != 0) = cm
  generalize decide (0 < m.ents.length) = ln
  generalize m.rej = rj
  generalize (m.hint != 0) = hn
  generalize (m.ctx != 0) = ct
  generalize askB m.kind = a
  generalize repB m.kind = r
  generalize (m.kind == 5) = p
  generalize (m.kind == 6) = b
  generalize (m.kind == 7) = i
  generalize noneS m = z
  cases p <;> cases b <;> cases a <;> simp only [Bool.not_or, Bool.not_and, Bool.not_not, Bool.true_or, Bool.or_true, Bool.false_or, Bool.or_false, Bool.true_and, Bool.and_true, Bool.false_and, Bool.and_false, Bool.not_true, Bool.not_false] <;> ac_rfl
end Go.Proofs.Ytkcllpbbjlbfaaa
