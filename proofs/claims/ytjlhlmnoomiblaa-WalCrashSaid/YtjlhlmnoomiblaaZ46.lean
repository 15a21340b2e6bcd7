/-
  What was kept is there: the law's end: the last record cut anywhere.
-/
import Derived.Test.YtjlhlmnoomiblaaZ45
import Derived.Test.YtjlhlmnoomiblaaZ31
import Derived.Deep.CutRange
import Derived.BigRegion
import Derived.Deep.MidRow
import Derived.Deep.RegionLaw
import Derived.Laws.Rows
namespace Go.Proofs.Ytjlhlmnoomiblaa
open Go.RowKit Wm Mm Lg Fl
set_option linter.unusedVariables false
set_option linter.unusedSimpArgs false

/-- what is known lies in block P, its rows in blocks of F -/
structure KpAt (F : Nat → Prop) (w : World) (P : Nat) (k : Kp) (ev x y z cx cy cz : Value) : Prop where
  blk : w.heap[P]? = some (.cells (cellsK k ev x y z cx cy cz) 33 (0, 0))
  es : Ents F w ev k.es
  sc : ConfG F w x y z k.sc
  cf : ConfG F w cx cy cz k.cf
  np : ¬ F P
theorem KpAt.below {F : Nat → Prop} {w w' : World} {P : Nat} {k : Kp} {ev x y z cx cy cz : Value} (h : KpAt F w P k ev x y z cx cy cz) (hb : Below w.heap.size w w') : KpAt F w' P k ev x y z cx cy cz :=
  ⟨(hb.block P (lt_of_block h.blk)).trans h.blk, Ents.monoC h.es hb, h.sc.frame (Agree.below hb), h.cf.frame (Agree.below hb), h.np⟩
def GotAt (w1 X : World) (M : Nat) (g : Kp) (ev x y z cx cy cz : Value) : Prop := X.heap[M]? = some (.cells (cellsK g ev x y z cx cy cz) 33 (0, 0)) ∧ Ents (fun _ => True) X ev g.es ∧ Below w1.heap.size w1 X
theorem got_new {w1 V w3 : World} {g : Kp} {ev x y z cx cy cz : Value} (hbV : Below w1.heap.size w1 V) (hb : Below V.heap.size V w3) (hE : Ents (fun b => V.heap.size ≤ b) w3 ev g.es) : ∀ X, X = w3.alloc (.cells (cellsK g ev x y z cx cy cz) 33) → Hid (GotAt w1 X w3.heap.size g ev x y z cx cy cz) := by
  rintro X rfl
  have h1 := hbV.trans (hb.mono hbV.size)
  exact ⟨hp_at _ _ rfl, (Ents.monoC hE ((Below.refl _ _).alloc (Nat.le_refl _) _)).weak (Plain.good _) (fun _ _ _ => trivial), h1.alloc h1.size _⟩
theorem got_set {w1 V w3 : World} {M : Nat} {g : Kp} {ev x y z cx cy cz : Value} (hM : w1.heap.size ≤ M) (hMV : M < V.heap.size) (hbV : Below w1.heap.size w1 V) (hb : Below V.heap.size V w3) (hz : w3.heap[M]? = some (.cells zeroKept.toArray 33 (0, 0))) (hE : Ents (fun b => V.heap.size ≤ b) w3 ev g.es) : ∀ X, X = setFrom w3 M 0 (cellsK g ev x y z cx cy cz).toList → Hid (GotAt w1 X M g ev x y z cx cy cz) := by
  rintro X rfl
  have h1 := hbV.trans (hb.mono hbV.size)
  have hc : Chg (fun b => b = M) w3 (setFrom w3 M 0 (cellsK g ev x y z cx cy cz).toList) := chg_from M _ w3 0
  exact ⟨from_at (vs := (cellsK g ev x y z cx cy cz).toList) (i := 0) hz, (hE.frame (Plain.good _) (hc.agree (fun b hb e => by have h5 : V.heap.size ≤ b := hb; omega))).weak (Plain.good _) (fun _ _ _ => trivial), h1.trans (hc.toBelow (fun b hb => by omega) h1.size)⟩
set_option maxHeartbeats 4000000 in
set_option maxRecDepth 100000 in
theorem crash_last {v0 v1 v2 v3 v4 v5 v6 v7 v12 v13 v14 v15 v16 v17 v18 v23 v24 v25 v26 v27 v28 v29 v30 v31 v32 v33 v34 v35 v36 v37 v38 v39 v40 v41 v42 v43 v44 v45 v46 v47 v48 v49 v50 v51 v52 v53 v54 v55 v56 v57 v58 v59 v60 v61 v62 v63 v64 v65 v66 v67 v68 v69 v70 v71 v72 v73 v74 v75 v76 v77 v78 v79 v80 v81 v82 v83 v84 v85 v86 v87 v88 v89 v90 v91 v92 v93 v94 v95 v96 v97 v98 v99 v100 v101 v102 v103 v104 v105 v106 v107 v108 v109 v110 v111 v112 v113 v114 v115 v116 v117 v118 v119 v120 v121 v122 v123 v124 v125 v126 v127 v128 v129 v130 v131 v132 v133 v134 v135 v136 v137 v138 v139 v140 v141 v142 v143 v144 v145 v146 v147 v148 v149 v150 v151 v152 v153 v154 v155 v156 v157 v158 v159 v160 v161 v162 v163 v164 v165 v166 v167 v168 v169 v170 v171 v172 v173 v174 v175 v176 v177 v178 v179 v180 v181 v182 v183 v184 v185 v186 v187 v188 v189 v190 v191 v192 v193 v194 v195 v196 v197 v198 v199 v200 v201 v202 v203 v204 v205 v206 v207 v208 v209 v210 v211 v212 v213 v214 v215 v216 v217 v218 v219 v220 v221 v222 v223 v224 v225 v226 v227 v228 v229 v230 v231 v232 v233 v234 v235 v236 v237 v238 v239 v240 v241 v242 v243 v244 v245 v246 v247 v248 v249 v250 v251 v252 v253 v254 v255 v256 v257 v258 v259 v260 v261 v262 v263 v264 v265 v266 v267 v268 v269 v270 v271 v272 v273 v274 v275 v276 v277 v278 v279 v280 v281 v282 v283 v284 v285 v286 v287 v288 v289 v290 v291 v292 v293 v294 v295 v296 v297 v298 v299 v300 v301 v302 v303 v304 v305 v306 v307 v308 : Value} (F : Nat → Prop) (w W : World) (post : Ending → World → Prop) (P A M : Nat) (k kw g : Kp) (ev x y z cx cy cz ew xw yw zw dx dy dz eg xg yg zg gx gy gz : Value) (s old : List UInt8) (m d : Nat) (sa : Option Addr) (sc9 : Nat) (al : List ActP)
    (HK : Hid (KpAt F W P k ev x y z cx cy cz)) (HA : Hid (KpAt F W A kw ew xw yw zw dx dy dz)) (HG : Hid (W.heap[M]? = some (.cells (cellsK g eg xg yg zg gx gy gz) 33 (0, 0)))) (HGE : Hid (Ents (fun _ => True) W eg g.es))
    (Hl : Hid (g.es.length ≤ 1099511627775 ∧ al.length ≤ 2)) (hd1 : IntKind.i64.wrap ((s.length : Int) - (old.length : Int)) = (d : Int)) (Hm : Hid (m ≤ d))
    (Hfull : Hid (m = d → g = k ∧ al = [])) (Htorn : Hid (m < d → (g.base = kw.base ∧ g.bt = kw.bt ∧ g.es = kw.es) ∧ ((g.t = kw.t ∧ g.v = kw.v ∧ g.c = kw.c) ∨ (g.t = k.t ∧ g.v = k.v ∧ g.c = k.c))))
    (HW : Hid (Below w.heap.size w W)) (HP : Hid (∀ w', Below w.heap.size w w' → post (.returned (.bool true)) w')) :
    Code.wp Try.prog ((Try.f3.body.bind (seqAt 45)).getD .skip) (bodyPost Try.prog Try.f3 post) ⟨#[v0, v1, v2, v3, v4, v5, v6, v7, .pointer (some ⟨P, 0, none⟩), str s, str old, .pointer (some ⟨A, 0, none⟩), v12, v13, v14, v15, v16, v17, v18, .int .i64 (m : Int), .pointer (some ⟨M, 0, none⟩), .slice sa al.length sc9, .int .i64 0, v23, v24, v25, v26, v27, v28, v29, v30, v31, v32, v33, v34, v35, v36, v37, v38, v39, v40, v41, v42, v43, v44, v45, v46, v47, v48, v49, v50, v51, v52, v53, v54, v55, v56, v57, v58, v59, v60, v61, v62, v63, v64, v65, v66, v67, v68, v69, v70, v71, v72, v73, v74, v75, v76, v77, v78, v79, v80, v81, v82, v83, v84, v85, v86, v87, v88, v89, v90, v91, v92, v93, v94, v95, v96, v97, v98, v99, v100, v101, v102, v103, v104, v105, v106, v107, v108, v109, v110, v111, v112, v113, v114, v115, v116, v117, v118, v119, v120, v121, v122, v123, v124, v125, v126, v127, v128, v129, v130, v131, v132, v133, v134, v135, v136, v137, v138, v139, v140, v141, v142, v143, v144, v145, v146, v147, v148, v149, v150, v151, v152, v153, v154, v155, v156, v157, v158, v159, v160, v161, v162, v163, v164, v165, v166, v167, v168, v169, v170, v171, v172, v173, v174, v175, v176, v177, v178, v179, v180, v181, v182, v183, v184, v185, v186, v187, v188, v189, v190, v191, v192, v193, v194, v195, v196, v197, v198, v199, v200, v201, v202, v203, v204, v205, v206, v207, v208, v209, v210, v211, v212, v213, v214, v215, v216, v217, v218, v219, v220, v221, v222, v223, v224, v225, v226, v227, v228, v229, v230, v231, v232, v233, v234, v235, v236, v237, v238, v239, v240, v241, v242, v243, v244, v245, v246, v247, v248, v249, v250, v251, v252, v253, v254, v255, v256, v257, v258, v259, v260, v261, v262, v263, v264, v265, v266, v267, v268, v269, v270, v271, v272, v273, v274, v275, v276, v277, v278, v279, v280, v281, v282, v283, v284, v285, v286, v287, v288, v289, v290, v291, v292, v293, v294, v295, v296, v297, v298, v299, v300, v301, v302, v303, v304, v305, v306, v307, v308], []⟩ W := by
  conv => arg 2; whnf
  obtain ⟨ae, af, hea, _, _⟩ := HK.out.es.slice
  obtain ⟨a1, ap1, h1a, _⟩ := len_of_Ints HK.out.sc.v.ints
  obtain ⟨a2, ap2, h2a, _⟩ := len_of_Ints HK.out.sc.n.ints
  obtain ⟨a3, ap3, h3a, _⟩ := len_of_Ints HK.out.sc.l.ints
  obtain ⟨a4, ap4, h4a, _⟩ := len_of_Ints HK.out.cf.v.ints
  obtain ⟨a5, ap5, h5a, _⟩ := len_of_Ints HK.out.cf.n.ints
  obtain ⟨a6, ap6, h6a, _⟩ := len_of_Ints HK.out.cf.l.ints
  subst hea h1a h2a h3a h4a h5a h6a
  obtain ⟨be, bf, heb, _, _⟩ := HA.out.es.slice
  obtain ⟨b1, bp1, h1b, _⟩ := len_of_Ints HA.out.sc.v.ints
  obtain ⟨b2, bp2, h2b, _⟩ := len_of_Ints HA.out.sc.n.ints
  obtain ⟨b3, bp3, h3b, _⟩ := len_of_Ints HA.out.sc.l.ints
  obtain ⟨b4, bp4, h4b, _⟩ := len_of_Ints HA.out.cf.v.ints
  obtain ⟨b5, bp5, h5b, _⟩ := len_of_Ints HA.out.cf.n.ints
  obtain ⟨b6, bp6, h6b, _⟩ := len_of_Ints HA.out.cf.l.ints
  subst heb h1b h2b h3b h4b h5b h6b
  obtain ⟨ge, gf, hge, _, _⟩ := HGE.out.slice
  subst hge
  have HSA := Lib.hid (sameLog_law g.base g.bt kw.base kw.bt _ _ g.es kw.es _ F W HGE.out HA.out.es Hl.out.1)
  have ha2 : decide (2 < al.length) = false := decide_eq_false (by have := Hl.out; omega)
  have ha2' : decide (2 < (al.length : Int)) = false := decide_eq_false (by have := Hl.out; omega)
  have cg3 := cell_n HG.out 3 (v := .int .i64 g.base) rfl
  have cg4 := cell_n HG.out 4 (v := .int .i64 g.bt) rfl
  have cg5 := cell_n HG.out 5 (v := .slice ge g.es.length gf) rfl
  have cb3 := cell_n HA.out.blk 3 (v := .int .i64 kw.base) rfl
  have cb4 := cell_n HA.out.blk 4 (v := .int .i64 kw.bt) rfl
  have cb5 := cell_n HA.out.blk 5 (v := .slice be kw.es.length bf) rfl
  have HX : Hid (∀ w1, Below W.heap.size W w1 → Hid (w1.heap[M]? = some (.cells (cellsK g (.slice ge g.es.length gf) xg yg zg gx gy gz) 33 (0, 0))) ∧ Hid (KpAt F w1 P k (.slice ae k.es.length af) (.slice a1 k.sc.v.length ap1) (.slice a2 k.sc.n.length ap2) (.slice a3 k.sc.l.length ap3) (.slice a4 k.cf.v.length ap4) (.slice a5 k.cf.n.length ap5) (.slice a6 k.cf.l.length ap6)) ∧ Hid (KpAt F w1 A kw (.slice be kw.es.length bf) (.slice b1 kw.sc.v.length bp1) (.slice b2 kw.sc.n.length bp2) (.slice b3 kw.sc.l.length bp3) (.slice b4 kw.cf.v.length bp4) (.slice b5 kw.cf.n.length bp5) (.slice b6 kw.cf.l.length bp6)) ∧ Hid (Ents (fun _ => True) w1 (.slice ge g.es.length gf) g.es) ∧ Hid (post (.returned (.bool true)) w1)) := fun w1 hb => ⟨(hb.block M (lt_of_block HG.out)).trans HG.out, HK.out.below hb, HA.out.below hb, Ents.monoC HGE.out hb, HP.out w1 (HW.out.trans (hb.mono HW.out.size))⟩
  have HGo : Hid (∀ q2, ((m : Int) == (d : Int)) = q2 → decide (m < d) = !q2) := by
    show ∀ q2, _ → _
    intro q2 h
    have hm := Hm.out
    cases q2 with
    | true => have := eq_of_beq h; exact decide_eq_false (by omega)
    | false => have := beq_eq_false_iff_ne.1 h; exact decide_eq_true (by omega)
  obtain ⟨q0, hq0⟩ : ∃ q, decide (0 < (m : Int)) = q := ⟨_, rfl⟩
  have hq0' : decide (0 < m) = q0 := by rw [← hq0]; exact decide_eq_decide.2 (by omega)
  obtain ⟨q2, hq2⟩ : ∃ q, ((m : Int) == (d : Int)) = q := ⟨_, rfl⟩
  have hq1 := HGo.out q2 hq2
  have hq1' : decide ((m : Int) < (d : Int)) = !q2 := by rw [← hq1]; exact decide_eq_decide.2 (by omega)
  have Hq2 := Lib.hid hq2
  have HT : Hid (q2 = true → m = d) := fun h => by have h1 := Hq2.out; rw [h] at h1; have := eq_of_beq h1; omega
  have HN : Hid (q2 = false → m < d) := fun h => by have h1 := hq1; rw [h] at h1; exact of_decide_eq_true h1
  have HQ : Hid (∀ b : Bool, b = true ∨ b = false) := fun b => by cases b <;> simp
  cases q0 <;> cases q2
  case' false.true => have HD := Lib.hid (HT.out rfl)
  case' true.true => have HD := Lib.hid (HT.out rfl)
  case' false.false => have HD := Lib.hid (HN.out rfl)
  case' true.false => have HD := Lib.hid (HN.out rfl)
  case false.true =>
    try rw [Bool.not_true] at hq1 hq1'
    try rw [Bool.not_false] at hq1 hq1'
    go_wp2_with fail
    refine HSA.out.mono ?_
    rintro e w1 ⟨qa, rfl, hqa, hb1⟩
    have Hqa := Lib.hid hqa
    have Hb1 := Lib.hid hb1
    obtain ⟨HG1, HK1, HA1, HE1, _⟩ := HX.out w1 hb1
    have HSB := Lib.hid (sameLog_law g.base g.bt k.base k.bt _ _ g.es k.es _ F w1 HE1.out HK1.out.es Hl.out.1)
    clear hb1 hqa cg3 cg4 cg5 cb3 cb4 cb5
    have cg3 := cell_n HG1.out 3 (v := .int .i64 g.base) rfl
    have cg4 := cell_n HG1.out 4 (v := .int .i64 g.bt) rfl
    have cg5 := cell_n HG1.out 5 (v := .slice ge g.es.length gf) rfl
    have ca3 := cell_n HK1.out.blk 3 (v := .int .i64 k.base) rfl
    have ca4 := cell_n HK1.out.blk 4 (v := .int .i64 k.bt) rfl
    have ca5 := cell_n HK1.out.blk 5 (v := .slice ae k.es.length af) rfl
    dsimp only
    go_wp2_with fail
    refine HSB.out.mono ?_
    rintro e w2 ⟨qb, rfl, hqb, hb2⟩
    have Hqb := Lib.hid hqb
    obtain ⟨HG2, HK2, HA2, _, HPo⟩ := HX.out w2 (Hb1.out.trans (hb2.mono Hb1.out.size))
    clear hb2 hqb cg3 cg4 cg5 ca3 ca4 ca5
    have cg0 := cell_n HG2.out 0 (v := .int .i64 g.t) rfl
    have cg1 := cell_n HG2.out 1 (v := .int .i64 g.v) rfl
    have cg2 := cell_n HG2.out 2 (v := .int .i64 g.c) rfl
    have ca0 := cell_n HK2.out.blk 0 (v := .int .i64 k.t) rfl
    have ca1 := cell_n HK2.out.blk 1 (v := .int .i64 k.v) rfl
    have ca2 := cell_n HK2.out.blk 2 (v := .int .i64 k.c) rfl
    have cb0 := cell_n HA2.out.blk 0 (v := .int .i64 kw.t) rfl
    have cb1 := cell_n HA2.out.blk 1 (v := .int .i64 kw.v) rfl
    have cb2 := cell_n HA2.out.blk 2 (v := .int .i64 kw.c) rfl
    dsimp only
    obtain ⟨he, hal⟩ := Hfull.out (HD.out)
    have hqb2 : qb = true := Hqb.out (by rw [he]; simp)
    have t0 : (g.t == k.t) = true := by rw [he]; exact beq_self_eq_true _
    have t1 : (g.v == k.v) = true := by rw [he]; exact beq_self_eq_true _
    have t2 : (g.c == k.c) = true := by rw [he]; exact beq_self_eq_true _
    have t3 : al.length = 0 := by rw [hal]; rfl
    have t4 : ((al.length : Int) == 0) = true := by rw [t3]; rfl
    subst hqb2
    clear he hal t3
    go_wp2_with fail
    exact HPo.out
  case true.true =>
    try rw [Bool.not_true] at hq1 hq1'
    try rw [Bool.not_false] at hq1 hq1'
    go_wp2_with fail
    refine HSA.out.mono ?_
    rintro e w1 ⟨qa, rfl, hqa, hb1⟩
    have Hqa := Lib.hid hqa
    have Hb1 := Lib.hid hb1
    obtain ⟨HG1, HK1, HA1, HE1, _⟩ := HX.out w1 hb1
    have HSB := Lib.hid (sameLog_law g.base g.bt k.base k.bt _ _ g.es k.es _ F w1 HE1.out HK1.out.es Hl.out.1)
    clear hb1 hqa cg3 cg4 cg5 cb3 cb4 cb5
    have cg3 := cell_n HG1.out 3 (v := .int .i64 g.base) rfl
    have cg4 := cell_n HG1.out 4 (v := .int .i64 g.bt) rfl
    have cg5 := cell_n HG1.out 5 (v := .slice ge g.es.length gf) rfl
    have ca3 := cell_n HK1.out.blk 3 (v := .int .i64 k.base) rfl
    have ca4 := cell_n HK1.out.blk 4 (v := .int .i64 k.bt) rfl
    have ca5 := cell_n HK1.out.blk 5 (v := .slice ae k.es.length af) rfl
    dsimp only
    go_wp2_with fail
    refine HSB.out.mono ?_
    rintro e w2 ⟨qb, rfl, hqb, hb2⟩
    have Hqb := Lib.hid hqb
    obtain ⟨HG2, HK2, HA2, _, HPo⟩ := HX.out w2 (Hb1.out.trans (hb2.mono Hb1.out.size))
    clear hb2 hqb cg3 cg4 cg5 ca3 ca4 ca5
    have cg0 := cell_n HG2.out 0 (v := .int .i64 g.t) rfl
    have cg1 := cell_n HG2.out 1 (v := .int .i64 g.v) rfl
    have cg2 := cell_n HG2.out 2 (v := .int .i64 g.c) rfl
    have ca0 := cell_n HK2.out.blk 0 (v := .int .i64 k.t) rfl
    have ca1 := cell_n HK2.out.blk 1 (v := .int .i64 k.v) rfl
    have ca2 := cell_n HK2.out.blk 2 (v := .int .i64 k.c) rfl
    have cb0 := cell_n HA2.out.blk 0 (v := .int .i64 kw.t) rfl
    have cb1 := cell_n HA2.out.blk 1 (v := .int .i64 kw.v) rfl
    have cb2 := cell_n HA2.out.blk 2 (v := .int .i64 kw.c) rfl
    dsimp only
    obtain ⟨he, hal⟩ := Hfull.out (HD.out)
    have hqb2 : qb = true := Hqb.out (by rw [he]; simp)
    have t0 : (g.t == k.t) = true := by rw [he]; exact beq_self_eq_true _
    have t1 : (g.v == k.v) = true := by rw [he]; exact beq_self_eq_true _
    have t2 : (g.c == k.c) = true := by rw [he]; exact beq_self_eq_true _
    have t3 : al.length = 0 := by rw [hal]; rfl
    have t4 : ((al.length : Int) == 0) = true := by rw [t3]; rfl
    subst hqb2
    clear he hal t3
    go_wp2_with fail
    exact HPo.out
  case false.false =>
    try rw [Bool.not_true] at hq1 hq1'
    try rw [Bool.not_false] at hq1 hq1'
    go_wp2_with fail
    refine HSA.out.mono ?_
    rintro e w1 ⟨qa, rfl, hqa, hb1⟩
    have Hqa := Lib.hid hqa
    have Hb1 := Lib.hid hb1
    obtain ⟨HG1, HK1, HA1, HE1, _⟩ := HX.out w1 hb1
    have HSB := Lib.hid (sameLog_law g.base g.bt k.base k.bt _ _ g.es k.es _ F w1 HE1.out HK1.out.es Hl.out.1)
    clear hb1 hqa cg3 cg4 cg5 cb3 cb4 cb5
    have cg3 := cell_n HG1.out 3 (v := .int .i64 g.base) rfl
    have cg4 := cell_n HG1.out 4 (v := .int .i64 g.bt) rfl
    have cg5 := cell_n HG1.out 5 (v := .slice ge g.es.length gf) rfl
    have ca3 := cell_n HK1.out.blk 3 (v := .int .i64 k.base) rfl
    have ca4 := cell_n HK1.out.blk 4 (v := .int .i64 k.bt) rfl
    have ca5 := cell_n HK1.out.blk 5 (v := .slice ae k.es.length af) rfl
    dsimp only
    go_wp2_with fail
    refine HSB.out.mono ?_
    rintro e w2 ⟨qb, rfl, hqb, hb2⟩
    have Hqb := Lib.hid hqb
    obtain ⟨HG2, HK2, HA2, _, HPo⟩ := HX.out w2 (Hb1.out.trans (hb2.mono Hb1.out.size))
    clear hb2 hqb cg3 cg4 cg5 ca3 ca4 ca5
    have cg0 := cell_n HG2.out 0 (v := .int .i64 g.t) rfl
    have cg1 := cell_n HG2.out 1 (v := .int .i64 g.v) rfl
    have cg2 := cell_n HG2.out 2 (v := .int .i64 g.c) rfl
    have ca0 := cell_n HK2.out.blk 0 (v := .int .i64 k.t) rfl
    have ca1 := cell_n HK2.out.blk 1 (v := .int .i64 k.v) rfl
    have ca2 := cell_n HK2.out.blk 2 (v := .int .i64 k.c) rfl
    have cb0 := cell_n HA2.out.blk 0 (v := .int .i64 kw.t) rfl
    have cb1 := cell_n HA2.out.blk 1 (v := .int .i64 kw.v) rfl
    have cb2 := cell_n HA2.out.blk 2 (v := .int .i64 kw.c) rfl
    dsimp only
    obtain ⟨⟨h1, h2, h3⟩, hh⟩ := Htorn.out (HD.out)
    have hqa2 : qa = true := Hqa.out (by rw [h1, h2, h3]; simp)
    subst hqa2
    clear h1 h2 h3
    rcases hh with ⟨h4, h5, h6⟩ | ⟨h4, h5, h6⟩
    · have t0 : (g.t == kw.t) = true := by rw [h4]; exact beq_self_eq_true _
      have t1 : (g.v == kw.v) = true := by rw [h5]; exact beq_self_eq_true _
      have t2 : (g.c == kw.c) = true := by rw [h6]; exact beq_self_eq_true _
      clear h4 h5 h6
      go_wp2_with fail
      exact HPo.out
    · have t0 : (g.t == k.t) = true := by rw [h4]; exact beq_self_eq_true _
      have t1 : (g.v == k.v) = true := by rw [h5]; exact beq_self_eq_true _
      have t2 : (g.c == k.c) = true := by rw [h6]; exact beq_self_eq_true _
      clear h4 h5 h6
      cases u0 : (g.t == kw.t) <;> cases u1 : (g.v == kw.v) <;> cases u2 : (g.c == kw.c)
      all_goals
        go_wp2_with fail
        exact HPo.out
  case true.false =>
    try rw [Bool.not_true] at hq1 hq1'
    try rw [Bool.not_false] at hq1 hq1'
    go_wp2_with fail
    refine HSA.out.mono ?_
    rintro e w1 ⟨qa, rfl, hqa, hb1⟩
    have Hqa := Lib.hid hqa
    have Hb1 := Lib.hid hb1
    obtain ⟨HG1, HK1, HA1, HE1, _⟩ := HX.out w1 hb1
    have HSB := Lib.hid (sameLog_law g.base g.bt k.base k.bt _ _ g.es k.es _ F w1 HE1.out HK1.out.es Hl.out.1)
    clear hb1 hqa cg3 cg4 cg5 cb3 cb4 cb5
    have cg3 := cell_n HG1.out 3 (v := .int .i64 g.base) rfl
    have cg4 := cell_n HG1.out 4 (v := .int .i64 g.bt) rfl
    have cg5 := cell_n HG1.out 5 (v := .slice ge g.es.length gf) rfl
    have ca3 := cell_n HK1.out.blk 3 (v := .int .i64 k.base) rfl
    have ca4 := cell_n HK1.out.blk 4 (v := .int .i64 k.bt) rfl
    have ca5 := cell_n HK1.out.blk 5 (v := .slice ae k.es.length af) rfl
    dsimp only
    go_wp2_with fail
    refine HSB.out.mono ?_
    rintro e w2 ⟨qb, rfl, hqb, hb2⟩
    have Hqb := Lib.hid hqb
    obtain ⟨HG2, HK2, HA2, _, HPo⟩ := HX.out w2 (Hb1.out.trans (hb2.mono Hb1.out.size))
    clear hb2 hqb cg3 cg4 cg5 ca3 ca4 ca5
    have cg0 := cell_n HG2.out 0 (v := .int .i64 g.t) rfl
    have cg1 := cell_n HG2.out 1 (v := .int .i64 g.v) rfl
    have cg2 := cell_n HG2.out 2 (v := .int .i64 g.c) rfl
    have ca0 := cell_n HK2.out.blk 0 (v := .int .i64 k.t) rfl
    have ca1 := cell_n HK2.out.blk 1 (v := .int .i64 k.v) rfl
    have ca2 := cell_n HK2.out.blk 2 (v := .int .i64 k.c) rfl
    have cb0 := cell_n HA2.out.blk 0 (v := .int .i64 kw.t) rfl
    have cb1 := cell_n HA2.out.blk 1 (v := .int .i64 kw.v) rfl
    have cb2 := cell_n HA2.out.blk 2 (v := .int .i64 kw.c) rfl
    dsimp only
    obtain ⟨⟨h1, h2, h3⟩, hh⟩ := Htorn.out (HD.out)
    have hqa2 : qa = true := Hqa.out (by rw [h1, h2, h3]; simp)
    subst hqa2
    clear h1 h2 h3
    rcases hh with ⟨h4, h5, h6⟩ | ⟨h4, h5, h6⟩
    · have t0 : (g.t == kw.t) = true := by rw [h4]; exact beq_self_eq_true _
      have t1 : (g.v == kw.v) = true := by rw [h5]; exact beq_self_eq_true _
      have t2 : (g.c == kw.c) = true := by rw [h6]; exact beq_self_eq_true _
      clear h4 h5 h6
      go_wp2_with fail
      exact HPo.out
    · have t0 : (g.t == k.t) = true := by rw [h4]; exact beq_self_eq_true _
      have t1 : (g.v == k.v) = true := by rw [h5]; exact beq_self_eq_true _
      have t2 : (g.c == k.c) = true := by rw [h6]; exact beq_self_eq_true _
      clear h4 h5 h6
      cases u0 : (g.t == kw.t) <;> cases u1 : (g.v == kw.v) <;> cases u2 : (g.c == kw.c)
      all_goals
        go_wp2_with fail
        exact HPo.out
set_option maxHeartbeats 4000000 in
set_option maxRecDepth 100000 in
theorem crash_end {v0 v1 v3 v4 v5 v6 v12 v13 v14 v15 v16 v17 v18 v19 v20 v21 v22 v23 v24 v25 v26 v27 v28 v29 v30 v31 v32 v33 v34 v35 v36 v37 v38 v39 v40 v41 v42 v43 v44 v45 v46 v47 v48 v49 v50 v51 v52 v53 v54 v55 v56 v57 v58 v59 v60 v61 v62 v63 v64 v65 v66 v67 v68 v69 v70 v71 v72 v73 v74 v75 v76 v77 v78 v79 v80 v81 v82 v83 v84 v85 v86 v87 v88 v89 v90 v91 v92 v93 v94 v95 v96 v97 v98 v99 v100 v101 v102 v103 v104 v105 v106 v107 v108 v109 v110 v111 v112 v113 v114 v115 v116 v117 v118 v119 v120 v121 v122 v123 v124 v125 v126 v127 v128 v129 v130 v131 v132 v133 v134 v135 v136 v137 v138 v139 v140 v141 v142 v143 v144 v145 v146 v147 v148 v149 v150 v151 v152 v153 v154 v155 v156 v157 v158 v159 v160 v161 v162 v163 v164 v165 v166 v167 v168 v169 v170 v171 v172 v173 v174 v175 v176 v177 v178 v179 v180 v181 v182 v183 v184 v185 v186 v187 v188 v189 v190 v191 v192 v193 v194 v195 v196 v197 v198 v199 v200 v201 v202 v203 v204 v205 v206 v207 v208 v209 v210 v211 v212 v213 v214 v215 v216 v217 v218 v219 v220 v221 v222 v223 v224 v225 v226 v227 v228 v229 v230 v231 v232 v233 v234 v235 v236 v237 v238 v239 v240 v241 v242 v243 v244 v245 v246 v247 v248 v249 v250 v251 v252 v253 v254 v255 v256 v257 v258 v259 v260 v261 v262 v263 v264 v265 v266 v267 v268 v269 v270 v271 v272 v273 v274 v275 v276 v277 v278 v279 v280 v281 v282 v283 v284 v285 v286 v287 v288 v289 v290 v291 v292 v293 v294 v295 v296 v297 v298 v299 v300 v301 v302 v303 v304 v305 v306 v307 v308 : Value} (F : Nat → Prop) (w W : World) (post : Ending → World → Prop) (C P A : Nat) (k kw : Kp) (ev x y z cx cy cz ew xw yw zw dx dy dz : Value) (s old : List UInt8) (part : Int) (m1 m2 m3 : Option Addr) (mp1 mp2 mp3 : Nat)
    (HK : Hid (KpAt F W P k ev x y z cx cy cz)) (HA : Hid (KpAt F W A kw ew xw yw zw dx dy dz)) (HC : Hid (W.heap[C]? = some (.cells #[.slice m1 2 mp1, .slice m2 0 mp2, .slice m3 0 mp3] 24 (0, 0)))) (H12 : Hid (Config3 W (.slice m1 2 mp1) (.slice m2 0 mp2) (.slice m3 0 mp3) c12))
    (Hop : Hid (openP [⟨nLog, s⟩] c12 = some (k, []))) (Hl : Hid (s.length ≤ 1000000 ∧ k.es.length ≤ 1099511627775 ∧ old.length ≤ 1000000))
    (Htorn : Hid (old.length ≤ s.length → s.take old.length = old → ∀ m, m ≤ s.length - old.length → ∃ g al, openP [⟨nLog, s.take (old.length + m)⟩] c12 = some (g, al) ∧ g.es.length ≤ 1099511627775 ∧ al.length ≤ 2 ∧ (m = s.length - old.length → g = k ∧ al = []) ∧ (m < s.length - old.length → (g.base = kw.base ∧ g.bt = kw.bt ∧ g.es = kw.es) ∧ ((g.t = kw.t ∧ g.v = kw.v ∧ g.c = kw.c) ∨ (g.t = k.t ∧ g.v = k.v ∧ g.c = k.c)))))
    (HW : Hid (Below w.heap.size w W)) (HP : Hid (∀ w', Below w.heap.size w w' → post (.returned (.bool true)) w')) :
    Code.wp Try.prog ((Try.f3.body.bind (seqAt 38)).getD .skip) (bodyPost Try.prog Try.f3 post) ⟨#[v0, v1, .int .i64 part, v3, v4, v5, v6, .pointer (some ⟨C, 0, none⟩), .pointer (some ⟨P, 0, none⟩), str s, str old, .pointer (some ⟨A, 0, none⟩), v12, v13, v14, v15, v16, v17, v18, v19, v20, v21, v22, v23, v24, v25, v26, v27, v28, v29, v30, v31, v32, v33, v34, v35, v36, v37, v38, v39, v40, v41, v42, v43, v44, v45, v46, v47, v48, v49, v50, v51, v52, v53, v54, v55, v56, v57, v58, v59, v60, v61, v62, v63, v64, v65, v66, v67, v68, v69, v70, v71, v72, v73, v74, v75, v76, v77, v78, v79, v80, v81, v82, v83, v84, v85, v86, v87, v88, v89, v90, v91, v92, v93, v94, v95, v96, v97, v98, v99, v100, v101, v102, v103, v104, v105, v106, v107, v108, v109, v110, v111, v112, v113, v114, v115, v116, v117, v118, v119, v120, v121, v122, v123, v124, v125, v126, v127, v128, v129, v130, v131, v132, v133, v134, v135, v136, v137, v138, v139, v140, v141, v142, v143, v144, v145, v146, v147, v148, v149, v150, v151, v152, v153, v154, v155, v156, v157, v158, v159, v160, v161, v162, v163, v164, v165, v166, v167, v168, v169, v170, v171, v172, v173, v174, v175, v176, v177, v178, v179, v180, v181, v182, v183, v184, v185, v186, v187, v188, v189, v190, v191, v192, v193, v194, v195, v196, v197, v198, v199, v200, v201, v202, v203, v204, v205, v206, v207, v208, v209, v210, v211, v212, v213, v214, v215, v216, v217, v218, v219, v220, v221, v222, v223, v224, v225, v226, v227, v228, v229, v230, v231, v232, v233, v234, v235, v236, v237, v238, v239, v240, v241, v242, v243, v244, v245, v246, v247, v248, v249, v250, v251, v252, v253, v254, v255, v256, v257, v258, v259, v260, v261, v262, v263, v264, v265, v266, v267, v268, v269, v270, v271, v272, v273, v274, v275, v276, v277, v278, v279, v280, v281, v282, v283, v284, v285, v286, v287, v288, v289, v290, v291, v292, v293, v294, v295, v296, v297, v298, v299, v300, v301, v302, v303, v304, v305, v306, v307, v308], []⟩ W := by
  conv => arg 2; whnf
  obtain ⟨ae, af, hea, _, _⟩ := HK.out.es.slice
  obtain ⟨a1, ap1, h1a, _⟩ := len_of_Ints HK.out.sc.v.ints
  obtain ⟨a2, ap2, h2a, _⟩ := len_of_Ints HK.out.sc.n.ints
  obtain ⟨a3, ap3, h3a, _⟩ := len_of_Ints HK.out.sc.l.ints
  obtain ⟨a4, ap4, h4a, _⟩ := len_of_Ints HK.out.cf.v.ints
  obtain ⟨a5, ap5, h5a, _⟩ := len_of_Ints HK.out.cf.n.ints
  obtain ⟨a6, ap6, h6a, _⟩ := len_of_Ints HK.out.cf.l.ints
  subst hea h1a h2a h3a h4a h5a h6a
  have HI := Lib.hid (is_law k _ _ _ _ _ _ _ s _ _ _ F W HK.out.es HK.out.sc.conf HK.out.cf.conf H12.out Hl.out.1 Hl.out.2.1 Hop.out)
  have ce0 := cell_n HC.out 0 (v := .slice m1 2 mp1) rfl
  have ce1 := cell_n HC.out 1 (v := .slice m2 0 mp2) rfl
  have ce2 := cell_n HC.out 2 (v := .slice m3 0 mp3) rfl
  go_upto_region 38 with fail
  refine wp_region_lit ?_
  refine wpList_load_row rfl 33 (.tmp 8) rfl P rfl 33 (cellsK k (.slice ae k.es.length af) (.slice a1 k.sc.v.length ap1) (.slice a2 k.sc.n.length ap2) (.slice a3 k.sc.l.length ap3) (.slice a4 k.cf.v.length ap4) (.slice a5 k.cf.n.length ap5) (.slice a6 k.cf.l.length ap6)) (0, 0) _ HK.out.blk Try.underlying33 rfl size_kept ?_
  go_wp2_with fail
  refine HI.out.mono ?_
  rintro e w1 ⟨rfl, hb1⟩
  have Hb1 := Lib.hid hb1
  have HPo := Lib.hid (HP.out w1 (HW.out.trans (hb1.mono HW.out.size)))
  clear hb1 ce0 ce1 ce2
  dsimp only
  by_cases h1 : s.length < old.length
  · have t1 : decide (s.length < old.length) = true := decide_eq_true h1
    have t1' : decide ((s.length : Int) < (old.length : Int)) = true := decide_eq_true (by omega)
    clear h1
    go_wp2_with fail
    exact HPo.out
  · have t1 : decide (s.length < old.length) = false := decide_eq_false h1
    have t1' : decide ((s.length : Int) < (old.length : Int)) = false := decide_eq_false (by omega)
    have hle : old.length ≤ s.length := by omega
    have hlei : (old.length : Int) ≤ (s.length : Int) := by omega
    by_cases h2 : s.take old.length = old
    · have t2 : (s.take old.length == old) = true := by rw [h2]; exact beq_self_eq_true _
      have t2' : (s.take old.length != old) = false := by rw [bne, t2]; rfl
      have HTn := Lib.hid (Htorn.out hle h2)
      obtain ⟨d, hd⟩ : ∃ d : Nat, s.length - old.length = d := ⟨_, rfl⟩
      rw [hd] at HTn
      have Hd := Lib.hid hd
      have hd1 : IntKind.i64.wrap ((s.length : Int) - (old.length : Int)) = (d : Int) := by
        have e : (s.length : Int) - (old.length : Int) = (d : Int) := by have := Hd.out; omega
        rw [e]
        exact IntWalk.i64_in _ (by have := Hl.out; have := Hd.out; omega)
      have hd2 : IntKind.i64.wrap ((d : Int) + 1) = (d : Int) + 1 := IntWalk.i64_in _ (by have := Hl.out; have := Hd.out; omega)
      have KP := Lib.hid (pick_any part ((d : Int) + 1) w1 (by omega) (by have := Hl.out; have := Hd.out; omega))
      have hmd : (pickN part ((d : Int) + 1) : Int) < (d : Int) + 1 := pickN_lt (by omega)
      obtain ⟨m, hm⟩ := hide (pickN part ((d : Int) + 1))
      rw [hm.out] at KP hmd
      have Hmd : Hid (m ≤ d) := by show _ ≤ _; omega
      clear h1 h2 hd hmd
      go_wp2_with fail
      refine KP.out.mono ?_
      rintro e w2 ⟨rfl, rfl⟩
      obtain ⟨g, al, hgo, hgl, hal, hfull, htn⟩ := HTn.out m Hmd.out
      have Hgl : Hid (g.es.length ≤ 1099511627775 ∧ al.length ≤ 2) := ⟨hgl, hal⟩
      have Hfull := Lib.hid hfull
      have Htn := Lib.hid htn
      have Hsm : Hid (old.length + m ≤ s.length) := by show _ ≤ _; have := Hmd.out; have := Hd.out; omega
      have hsm := Hsm.out
      have hsmi : ((old.length + m : Nat) : Int) ≤ (s.length : Int) := by omega
      have hwm : IntKind.i64.wrap ((old.length : Int) + (m : Int)) = ((old.length + m : Nat) : Int) := by
        rw [Int.natCast_add]
        exact IntWalk.i64_in _ (by have := Hl.out; omega)
      obtain ⟨om, hom⟩ := hide (old.length + m)
      rw [hom.out] at hsm hsmi hwm hgo
      have HH1 := Lib.hid (HK.out.below Hb1.out)
      have HA1 := Lib.hid (HA.out.below Hb1.out)
      have HC1 : Hid (w1.heap[C]? = _) := (Hb1.out.block C (lt_of_block HC.out)).trans HC.out
      have HC1d : Hid (w1.drew.heap[C]? = some (.cells #[.slice m1 2 mp1, .slice m2 0 mp2, .slice m3 0 mp3] 24 (0, 0))) := HC1.out
      have H121 : Hid (Config3 w1 (.slice m1 2 mp1) (.slice m2 0 mp2) (.slice m3 0 mp3) c12) := H12.out.mono Hb1.out
      have HO : Hid (∀ (V : World) (b : Nat), Below w1.heap.size w1 V → w1.heap.size ≤ b → V.heap[b]? = some (.cells #[.string ⟨#[108, 111, 103]⟩, str (s.take om)] 53 (0, 0)) → Calls Try.prog 9 #[.slice (some ⟨b, 0, none⟩) 1 1, .agg #[.slice m1 2 mp1, .slice m2 0 mp2, .slice m3 0 mp3]] V (OpenPostN V (some (g, al)))) := by
        show ∀ (V : World) (b : Nat), _ → _ → _ → _
        intro V b hb hle hg
        have h1 : OwnF w1.heap.size V (.slice (some ⟨b, 0, none⟩) 1 1) [⟨nLog, s.take om⟩] := own_lit rowF rowF_len hg hle (by unfold maxLen; simp)
        have := open_walN _ [⟨nLog, s.take om⟩] _ _ _ c12 _ V (OwnF.fls h1) (H121.out.mono hb) (by intro f hf; simp at hf; subst hf; show (s.take om).length ≤ _; rw [List.length_take]; have := Hl.out; omega) (by simp)
        rwa [hgo] at this
      have Hlt := lt_of_block HC1.out
      have hbF : Below w1.heap.size w1 ((w1.alloc (.cells #[.string ⟨#[108, 111, 103]⟩, str (s.take om)] 53)).drew) := ((Below.refl _ _).alloc (Nat.le_refl _) _).drew
      have hbZ : Below w1.heap.size w1 ((w1.alloc (.cells #[.int .i64 0, .int .i64 0, .int .i64 0, .int .i64 0, .int .i64 0, .slice none 0 0, .int .i64 0, .int .i64 0, .slice none 0 0, .slice none 0 0, .slice none 0 0, .string ⟨#[]⟩, .slice none 0 0, .slice none 0 0, .slice none 0 0] 33)).drew) := ((Below.refl _ _).alloc (Nat.le_refl _) _).drew
      have hbFZ : Below w1.heap.size w1 (((w1.alloc (.cells #[.string ⟨#[108, 111, 103]⟩, str (s.take om)] 53)).alloc (.cells #[.int .i64 0, .int .i64 0, .int .i64 0, .int .i64 0, .int .i64 0, .slice none 0 0, .int .i64 0, .int .i64 0, .slice none 0 0, .slice none 0 0, .slice none 0 0, .string ⟨#[]⟩, .slice none 0 0, .slice none 0 0, .slice none 0 0] 33)).drew) := (((Below.refl _ _).alloc (Nat.le_refl _) _).alloc (by simp) _).drew
      have hbZF : Below w1.heap.size w1 (((w1.alloc (.cells #[.int .i64 0, .int .i64 0, .int .i64 0, .int .i64 0, .int .i64 0, .slice none 0 0, .int .i64 0, .int .i64 0, .slice none 0 0, .slice none 0 0, .slice none 0 0, .string ⟨#[]⟩, .slice none 0 0, .slice none 0 0, .slice none 0 0] 33)).alloc (.cells #[.string ⟨#[108, 111, 103]⟩, str (s.take om)] 53)).drew) := (((Below.refl _ _).alloc (Nat.le_refl _) _).alloc (by simp) _).drew
      have O1 := Lib.hid (HO.out ((w1.alloc (.cells #[.string ⟨#[108, 111, 103]⟩, str (s.take om)] 53)).drew) w1.heap.size hbF (Nat.le_refl _) (hp_at w1 _ rfl))
      have O2 := Lib.hid (HO.out (((w1.alloc (.cells #[.string ⟨#[108, 111, 103]⟩, str (s.take om)] 53)).alloc (.cells #[.int .i64 0, .int .i64 0, .int .i64 0, .int .i64 0, .int .i64 0, .slice none 0 0, .int .i64 0, .int .i64 0, .slice none 0 0, .slice none 0 0, .slice none 0 0, .string ⟨#[]⟩, .slice none 0 0, .slice none 0 0, .slice none 0 0] 33)).drew) w1.heap.size hbFZ (Nat.le_refl _) ((hp_past (w1.alloc (.cells #[.string ⟨#[108, 111, 103]⟩, str (s.take om)] 53)) (.cells #[.int .i64 0, .int .i64 0, .int .i64 0, .int .i64 0, .int .i64 0, .slice none 0 0, .int .i64 0, .int .i64 0, .slice none 0 0, .slice none 0 0, .slice none 0 0, .string ⟨#[]⟩, .slice none 0 0, .slice none 0 0, .slice none 0 0] 33) (by simp)).trans (hp_at w1 _ rfl)))
      have O3 := Lib.hid (HO.out (((w1.alloc (.cells #[.int .i64 0, .int .i64 0, .int .i64 0, .int .i64 0, .int .i64 0, .slice none 0 0, .int .i64 0, .int .i64 0, .slice none 0 0, .slice none 0 0, .slice none 0 0, .string ⟨#[]⟩, .slice none 0 0, .slice none 0 0, .slice none 0 0] 33)).alloc (.cells #[.string ⟨#[108, 111, 103]⟩, str (s.take om)] 53)).drew) (w1.heap.size + 1) hbZF (by omega) (hp_at (w1.alloc (.cells #[.int .i64 0, .int .i64 0, .int .i64 0, .int .i64 0, .int .i64 0, .slice none 0 0, .int .i64 0, .int .i64 0, .slice none 0 0, .slice none 0 0, .slice none 0 0, .string ⟨#[]⟩, .slice none 0 0, .slice none 0 0, .slice none 0 0] 33)) (.cells #[.string ⟨#[108, 111, 103]⟩, str (s.take om)] 53) (by simp)))
      have Z2 : Hid (∀ w3, Below (((w1.alloc (.cells #[.string ⟨#[108, 111, 103]⟩, str (s.take om)] 53)).alloc (.cells #[.int .i64 0, .int .i64 0, .int .i64 0, .int .i64 0, .int .i64 0, .slice none 0 0, .int .i64 0, .int .i64 0, .slice none 0 0, .slice none 0 0, .slice none 0 0, .string ⟨#[]⟩, .slice none 0 0, .slice none 0 0, .slice none 0 0] 33)).drew).heap.size (((w1.alloc (.cells #[.string ⟨#[108, 111, 103]⟩, str (s.take om)] 53)).alloc (.cells #[.int .i64 0, .int .i64 0, .int .i64 0, .int .i64 0, .int .i64 0, .slice none 0 0, .int .i64 0, .int .i64 0, .slice none 0 0, .slice none 0 0, .slice none 0 0, .string ⟨#[]⟩, .slice none 0 0, .slice none 0 0, .slice none 0 0] 33)).drew) w3 → w3.heap[w1.heap.size + 1]? = some (.cells zeroKept.toArray 33 (0, 0))) := fun w3 hb => (hb.block (w1.heap.size + 1) (by show _ < ((w1.alloc _).alloc _).heap.size; simp)).trans (hp_at (w1.alloc (.cells #[.string ⟨#[108, 111, 103]⟩, str (s.take om)] 53)) (.cells #[.int .i64 0, .int .i64 0, .int .i64 0, .int .i64 0, .int .i64 0, .slice none 0 0, .int .i64 0, .int .i64 0, .slice none 0 0, .slice none 0 0, .slice none 0 0, .string ⟨#[]⟩, .slice none 0 0, .slice none 0 0, .slice none 0 0] 33) (by simp))
      have Z3 : Hid (∀ w3, Below (((w1.alloc (.cells #[.int .i64 0, .int .i64 0, .int .i64 0, .int .i64 0, .int .i64 0, .slice none 0 0, .int .i64 0, .int .i64 0, .slice none 0 0, .slice none 0 0, .slice none 0 0, .string ⟨#[]⟩, .slice none 0 0, .slice none 0 0, .slice none 0 0] 33)).alloc (.cells #[.string ⟨#[108, 111, 103]⟩, str (s.take om)] 53)).drew).heap.size (((w1.alloc (.cells #[.int .i64 0, .int .i64 0, .int .i64 0, .int .i64 0, .int .i64 0, .slice none 0 0, .int .i64 0, .int .i64 0, .slice none 0 0, .slice none 0 0, .slice none 0 0, .string ⟨#[]⟩, .slice none 0 0, .slice none 0 0, .slice none 0 0] 33)).alloc (.cells #[.string ⟨#[108, 111, 103]⟩, str (s.take om)] 53)).drew) w3 → w3.heap[w1.heap.size]? = some (.cells zeroKept.toArray 33 (0, 0))) := fun w3 hb => (hb.block w1.heap.size (by show _ < ((w1.alloc _).alloc _).heap.size; rw [World.size_alloc, World.size_alloc]; omega)).trans ((hp_past (w1.alloc (.cells #[.int .i64 0, .int .i64 0, .int .i64 0, .int .i64 0, .int .i64 0, .slice none 0 0, .int .i64 0, .int .i64 0, .slice none 0 0, .slice none 0 0, .slice none 0 0, .string ⟨#[]⟩, .slice none 0 0, .slice none 0 0, .slice none 0 0] 33)) (.cells #[.string ⟨#[108, 111, 103]⟩, str (s.take om)] 53) (by simp)).trans (hp_at w1 _ rfl))
      have hc1 := (hbF.block C Hlt).trans HC1.out
      have hc2 := (hbZ.block C Hlt).trans HC1.out
      have hc3 := (hbFZ.block C Hlt).trans HC1.out
      have hc4 := (hbZF.block C Hlt).trans HC1.out
      have HbF := Lib.hid hbF
      have HbFZ := Lib.hid hbFZ
      have HbZF := Lib.hid hbZF
      have cf0 := cell_n HC1d.out 0 (v := .slice m1 2 mp1) rfl
      have cf1 := cell_n HC1d.out 1 (v := .slice m2 0 mp2) rfl
      have cf2 := cell_n HC1d.out 2 (v := .slice m3 0 mp3) rfl
      have cg10 := cell_n hc1 0 (v := .slice m1 2 mp1) rfl
      have cg11 := cell_n hc1 1 (v := .slice m2 0 mp2) rfl
      have cg12 := cell_n hc1 2 (v := .slice m3 0 mp3) rfl
      have cg20 := cell_n hc2 0 (v := .slice m1 2 mp1) rfl
      have cg21 := cell_n hc2 1 (v := .slice m2 0 mp2) rfl
      have cg22 := cell_n hc2 2 (v := .slice m3 0 mp3) rfl
      have cg30 := cell_n hc3 0 (v := .slice m1 2 mp1) rfl
      have cg31 := cell_n hc3 1 (v := .slice m2 0 mp2) rfl
      have cg32 := cell_n hc3 2 (v := .slice m3 0 mp3) rfl
      have cg40 := cell_n hc4 0 (v := .slice m1 2 mp1) rfl
      have cg41 := cell_n hc4 1 (v := .slice m2 0 mp2) rfl
      have cg42 := cell_n hc4 2 (v := .slice m3 0 mp3) rfl
      clear hbF hbZ hbFZ hbZF hgo hgl hal hfull htn hc1 hc2 hc3 hc4 Hlt
      have HR : Hid (∀ (V : World) (e : Ending) (w3 : World), Below w1.heap.size w1 V → OpenPostN V (some (g, al)) e w3 → ∃ (ge : Option Addr) (gf : Nat) (g1 g2 g3 g4 g5 g6 : Option Addr) (gp1 gp2 gp3 gp4 gp5 gp6 : Nat) (sa : Option Addr) (sc9 : Nat), e = .returned (.tuple #[.agg (cellsK g (.slice ge g.es.length gf) (.slice g1 g.sc.v.length gp1) (.slice g2 g.sc.n.length gp2) (.slice g3 g.sc.l.length gp3) (.slice g4 g.cf.v.length gp4) (.slice g5 g.cf.n.length gp5) (.slice g6 g.cf.l.length gp6)), .slice sa al.length sc9, .int .i64 0]) ∧ Ents (fun b => V.heap.size ≤ b) w3 (.slice ge g.es.length gf) g.es ∧ Below w1.heap.size w1 w3 ∧ Below V.heap.size V w3) := by
        show ∀ (V : World) (e : Ending) (w3 : World), _ → _ → _
        rintro V e w3 hbV ⟨hb3, eg, xg, yg, zg, gx, gy, gz, av, rfl, hE3, hs3, hf3, hA3⟩
        obtain ⟨ge, gf, hge, _, _⟩ := hE3.slice
        obtain ⟨g1, gp1, h1g, _⟩ := len_of_Ints hs3.v
        obtain ⟨g2, gp2, h2g, _⟩ := len_of_Ints hs3.n
        obtain ⟨g3, gp3, h3g, _⟩ := len_of_Ints hs3.l
        obtain ⟨g4, gp4, h4g, _⟩ := len_of_Ints hf3.v
        obtain ⟨g5, gp5, h5g, _⟩ := len_of_Ints hf3.n
        obtain ⟨g6, gp6, h6g, _⟩ := len_of_Ints hf3.l
        obtain ⟨sa, sc9, hav, _, _⟩ := hA3.slice
        subst hge h1g h2g h3g h4g h5g h6g hav
        refine ⟨ge, gf, g1, g2, g3, g4, g5, g6, gp1, gp2, gp3, gp4, gp5, gp6, sa, sc9, rfl, hE3, hbV.trans (hb3.mono hbV.size), hb3⟩
      have HM2 : Hid (w1.heap.size ≤ w1.heap.size + 1 ∧ w1.heap.size + 1 < (((w1.alloc (.cells #[.string ⟨#[108, 111, 103]⟩, str (s.take om)] 53)).alloc (.cells #[.int .i64 0, .int .i64 0, .int .i64 0, .int .i64 0, .int .i64 0, .slice none 0 0, .int .i64 0, .int .i64 0, .slice none 0 0, .slice none 0 0, .slice none 0 0, .string ⟨#[]⟩, .slice none 0 0, .slice none 0 0, .slice none 0 0] 33)).drew).heap.size) := ⟨by omega, by show _ < ((w1.alloc _).alloc _).heap.size; rw [World.size_alloc, World.size_alloc]; omega⟩
      have HM3 : Hid (w1.heap.size ≤ w1.heap.size ∧ w1.heap.size < (((w1.alloc (.cells #[.int .i64 0, .int .i64 0, .int .i64 0, .int .i64 0, .int .i64 0, .slice none 0 0, .int .i64 0, .int .i64 0, .slice none 0 0, .slice none 0 0, .slice none 0 0, .string ⟨#[]⟩, .slice none 0 0, .slice none 0 0, .slice none 0 0] 33)).alloc (.cells #[.string ⟨#[108, 111, 103]⟩, str (s.take om)] 53)).drew).heap.size) := ⟨Nat.le_refl _, by show _ < ((w1.alloc _).alloc _).heap.size; rw [World.size_alloc, World.size_alloc]; omega⟩
      have R1 := Lib.hid (fun e w3 h => HR.out ((w1.alloc (.cells #[.string ⟨#[108, 111, 103]⟩, str (s.take om)] 53)).drew) e w3 HbF.out h)
      have R2 := Lib.hid (fun e w3 h => HR.out (((w1.alloc (.cells #[.string ⟨#[108, 111, 103]⟩, str (s.take om)] 53)).alloc (.cells #[.int .i64 0, .int .i64 0, .int .i64 0, .int .i64 0, .int .i64 0, .slice none 0 0, .int .i64 0, .int .i64 0, .slice none 0 0, .slice none 0 0, .slice none 0 0, .string ⟨#[]⟩, .slice none 0 0, .slice none 0 0, .slice none 0 0] 33)).drew) e w3 HbFZ.out h)
      have R3 := Lib.hid (fun e w3 h => HR.out (((w1.alloc (.cells #[.int .i64 0, .int .i64 0, .int .i64 0, .int .i64 0, .int .i64 0, .slice none 0 0, .int .i64 0, .int .i64 0, .slice none 0 0, .slice none 0 0, .slice none 0 0, .string ⟨#[]⟩, .slice none 0 0, .slice none 0 0, .slice none 0 0] 33)).alloc (.cells #[.string ⟨#[108, 111, 103]⟩, str (s.take om)] 53)).drew) e w3 HbZF.out h)
      go_upto_region 44 with fail
      try dsimp only
      go_cut [20, 21, 22] from 231 to 243 (fun s20 s21 s22 wx => ∃ (M : Nat) (ge : Option Addr) (gf : Nat) (g1 g2 g3 g4 g5 g6 : Option Addr) (gp1 gp2 gp3 gp4 gp5 gp6 : Nat) (sa : Option Addr) (sc9 : Nat), s20 = .pointer (some ⟨M, 0, none⟩) ∧ s21 = .slice sa al.length sc9 ∧ s22 = .int .i64 0 ∧ Hid (GotAt w1 wx M g (.slice ge g.es.length gf) (.slice g1 g.sc.v.length gp1) (.slice g2 g.sc.n.length gp2) (.slice g3 g.sc.l.length gp3) (.slice g4 g.cf.v.length gp4) (.slice g5 g.cf.n.length gp5) (.slice g6 g.cf.l.length gp6)))
      case first =>
        go_region_law (first
          | (go_simp; go_at_call 9; (with_reducible refine Calls.mono O1.out ?_); intro e w3 hp; obtain ⟨ge, gf, g1, g2, g3, g4, g5, g6, gp1, gp2, gp3, gp4, gp5, gp6, sa, sc9, rfl, hE3, hb3, hbv⟩ := R1.out e w3 hp; have HS9 := Lib.hid (got_new (x := .slice g1 g.sc.v.length gp1) (y := .slice g2 g.sc.n.length gp2) (z := .slice g3 g.sc.l.length gp3) (cx := .slice g4 g.cf.v.length gp4) (cy := .slice g5 g.cf.n.length gp5) (cz := .slice g6 g.cf.l.length gp6) HbF.out hbv hE3); clear hp hbv hE3 hb3)
          | (go_simp; go_at_call 9; (with_reducible refine Calls.mono O2.out ?_); intro e w3 hp; obtain ⟨ge, gf, g1, g2, g3, g4, g5, g6, gp1, gp2, gp3, gp4, gp5, gp6, sa, sc9, rfl, hE3, hb3, hbv⟩ := R2.out e w3 hp; have hz := Lib.hid (Z2.out w3 hbv); have HS9 := Lib.hid (got_set (x := .slice g1 g.sc.v.length gp1) (y := .slice g2 g.sc.n.length gp2) (z := .slice g3 g.sc.l.length gp3) (cx := .slice g4 g.cf.v.length gp4) (cy := .slice g5 g.cf.n.length gp5) (cz := .slice g6 g.cf.l.length gp6) HM2.out.1 HM2.out.2 HbFZ.out hbv hz.out hE3); have zc0 := cell_n hz.out 0 (v := .int .i64 0) rfl; have zf0 := free_n hz.out 0; have zc1 := cell_n hz.out 1 (v := .int .i64 0) rfl; have zf1 := free_n hz.out 1; have zc2 := cell_n hz.out 2 (v := .int .i64 0) rfl; have zf2 := free_n hz.out 2; have zc3 := cell_n hz.out 3 (v := .int .i64 0) rfl; have zf3 := free_n hz.out 3; have zc4 := cell_n hz.out 4 (v := .int .i64 0) rfl; have zf4 := free_n hz.out 4; have zc5 := cell_n hz.out 5 (v := .slice none 0 0) rfl; have zf5 := free_n hz.out 5; have zc6 := cell_n hz.out 6 (v := .int .i64 0) rfl; have zf6 := free_n hz.out 6; have zc7 := cell_n hz.out 7 (v := .int .i64 0) rfl; have zf7 := free_n hz.out 7; have zc8 := cell_n hz.out 8 (v := .slice none 0 0) rfl; have zf8 := free_n hz.out 8; have zc9 := cell_n hz.out 9 (v := .slice none 0 0) rfl; have zf9 := free_n hz.out 9; have zc10 := cell_n hz.out 10 (v := .slice none 0 0) rfl; have zf10 := free_n hz.out 10; have zc11 := cell_n hz.out 11 (v := .string ⟨#[]⟩) rfl; have zf11 := free_n hz.out 11; have zc12 := cell_n hz.out 12 (v := .slice none 0 0) rfl; have zf12 := free_n hz.out 12; have zc13 := cell_n hz.out 13 (v := .slice none 0 0) rfl; have zf13 := free_n hz.out 13; have zc14 := cell_n hz.out 14 (v := .slice none 0 0) rfl; have zf14 := free_n hz.out 14; clear hp hbv hE3 hb3)
          | (go_simp; go_at_call 9; (with_reducible refine Calls.mono O3.out ?_); intro e w3 hp; obtain ⟨ge, gf, g1, g2, g3, g4, g5, g6, gp1, gp2, gp3, gp4, gp5, gp6, sa, sc9, rfl, hE3, hb3, hbv⟩ := R3.out e w3 hp; have hz := Lib.hid (Z3.out w3 hbv); have HS9 := Lib.hid (got_set (x := .slice g1 g.sc.v.length gp1) (y := .slice g2 g.sc.n.length gp2) (z := .slice g3 g.sc.l.length gp3) (cx := .slice g4 g.cf.v.length gp4) (cy := .slice g5 g.cf.n.length gp5) (cz := .slice g6 g.cf.l.length gp6) HM3.out.1 HM3.out.2 HbZF.out hbv hz.out hE3); have zc0 := cell_n hz.out 0 (v := .int .i64 0) rfl; have zf0 := free_n hz.out 0; have zc1 := cell_n hz.out 1 (v := .int .i64 0) rfl; have zf1 := free_n hz.out 1; have zc2 := cell_n hz.out 2 (v := .int .i64 0) rfl; have zf2 := free_n hz.out 2; have zc3 := cell_n hz.out 3 (v := .int .i64 0) rfl; have zf3 := free_n hz.out 3; have zc4 := cell_n hz.out 4 (v := .int .i64 0) rfl; have zf4 := free_n hz.out 4; have zc5 := cell_n hz.out 5 (v := .slice none 0 0) rfl; have zf5 := free_n hz.out 5; have zc6 := cell_n hz.out 6 (v := .int .i64 0) rfl; have zf6 := free_n hz.out 6; have zc7 := cell_n hz.out 7 (v := .int .i64 0) rfl; have zf7 := free_n hz.out 7; have zc8 := cell_n hz.out 8 (v := .slice none 0 0) rfl; have zf8 := free_n hz.out 8; have zc9 := cell_n hz.out 9 (v := .slice none 0 0) rfl; have zf9 := free_n hz.out 9; have zc10 := cell_n hz.out 10 (v := .slice none 0 0) rfl; have zf10 := free_n hz.out 10; have zc11 := cell_n hz.out 11 (v := .string ⟨#[]⟩) rfl; have zf11 := free_n hz.out 11; have zc12 := cell_n hz.out 12 (v := .slice none 0 0) rfl; have zf12 := free_n hz.out 12; have zc13 := cell_n hz.out 13 (v := .slice none 0 0) rfl; have zf13 := free_n hz.out 13; have zc14 := cell_n hz.out 14 (v := .slice none 0 0) rfl; have zf14 := free_n hz.out 14; clear hp hbv hE3 hb3))
        all_goals
          go_wp2_with fail
          go_meet
          exact ⟨_, ge, gf, g1, g2, g3, g4, g5, g6, gp1, gp2, gp3, gp4, gp5, gp6, sa, sc9, rfl, rfl, rfl, HS9.out _ rfl⟩
      case rest =>
        obtain ⟨U, hU⟩ : ∃ U, U = wc := ⟨_, rfl⟩
        subst hU
        obtain ⟨M, ge, gf, g1, g2, g3, g4, g5, g6, gp1, gp2, gp3, gp4, gp5, gp6, sa, sc9, rfl, rfl, rfl, hGt⟩ := hcut
        have hM := Lib.hid hGt.out.1
        have hE := Lib.hid hGt.out.2.1
        have hb := Lib.hid hGt.out.2.2
        have HKU := Lib.hid (HH1.out.below hb.out)
        have HAU := Lib.hid (HA1.out.below hb.out)
        have HWU : Hid (Below w.heap.size w U) := HW.out.trans ((Hb1.out.trans (hb.out.mono Hb1.out.size)).mono HW.out.size)
        iterate 20 (first | done | exact crash_last F w U post P A M k kw g _ _ _ _ _ _ _ _ _ _ _ _ _ _ _ _ _ _ _ _ _ s old m d sa sc9 al HKU HAU hM hE Hgl hd1 Hmd Hfull Htn HWU HP | go_step)
    · have t2 : (s.take old.length == old) = false := beq_eq_false_iff_ne.2 h2
      have t2' : (s.take old.length != old) = true := bne_iff_ne.2 h2
      clear h2 h1
      go_wp2_with fail
      all_goals exact HPo.out
end Go.Proofs.Ytjlhlmnoomiblaa
