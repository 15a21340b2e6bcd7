/-
  What was kept is there: a round of the law: the snapshot.
-/
import Derived.Test.YtjlhlmnoomiblaaZ46
import Derived.Deep.DeepCutAuto
namespace Go.Proofs.Ytjlhlmnoomiblaa
open Go.RowKit Wm Mm Lg Fl
set_option linter.unusedVariables false
set_option linter.unusedSimpArgs false

/-- what the law has come to behind i rounds -/
def PlainSt (i : Nat) (k kw : Kp) (s old : List UInt8) : Prop := Stk i k s ∧ (old = s ∨ ∃ (n0 : Nat) (t v : Int) (b : UInt8), n0 ≤ 30 ∧ Stk n0 kw old ∧ 1 ≤ t ∧ t ≤ n0 + 1 ∧ kw.t ≤ t ∧ 0 ≤ v ∧ v ≤ 9 ∧ k = appK kw t v b ∧ s = old ++ appB kw t v b)
theorem PlainSt.app {i : Nat} {k kw : Kp} {s old : List UInt8} (h : PlainSt i k kw s old) (hi : i ≤ 30) {t v : Int} (b : UInt8) (h1 : 1 ≤ t) (h2 : t ≤ i + 1) (h3 : k.t ≤ t) (h4 : 0 ≤ v) (h5 : v ≤ 9) : PlainSt (i + 1) (appK k t v b) k (s ++ appB k t v b) s :=
  ⟨h.1.app hi b h1 h2 h3 h4 h5, Or.inr ⟨i, t, v, b, hi, h.1, h1, h2, h3, h4, h5, rfl, rfl⟩⟩
theorem PlainSt.cut {i : Nat} {k kw : Kp} {s old : List UInt8} (h : PlainSt i k kw s old) (hi : i ≤ 30) {t v : Int} (b : UInt8) (h1 : 1 ≤ t) (h2 : t ≤ i + 1) (h3 : k.t ≤ t) (h4 : 0 ≤ v) (h5 : v ≤ 9) (hb : k.base < endK k) : PlainSt (i + 1) (cutK k t v b) (cutK k t v b) (cutB k t v b) (cutB k t v b) :=
  ⟨h.1.cut hi b h1 h2 h3 h4 h5 hb (putSnapB_len _ _ _ _), Or.inl rfl⟩
/-- the last cut: what the end of the law asks for -/
theorem PlainSt.torn {i : Nat} {k kw : Kp} {s old : List UInt8} (h : PlainSt i k kw s old) (h0 : old.length ≤ s.length) (ht : s.take old.length = old) : ∀ m, m ≤ s.length - old.length → ∃ g al, openP [⟨nLog, s.take (old.length + m)⟩] c12 = some (g, al) ∧ g.es.length ≤ 1099511627775 ∧ al.length ≤ 2 ∧ (m = s.length - old.length → g = k ∧ al = []) ∧ (m < s.length - old.length → (g.base = kw.base ∧ g.bt = kw.bt ∧ g.es = kw.es) ∧ ((g.t = kw.t ∧ g.v = kw.v ∧ g.c = kw.c) ∨ (g.t = k.t ∧ g.v = k.v ∧ g.c = k.c))) := by
  intro m hm
  rcases h.2 with e | ⟨n0, t, v, b, hn, hs, h1, h2, h3, h4, h5, hk, hss⟩
  · subst e
    have : m = 0 := by omega
    subst this
    rw [Nat.add_zero, List.take_length]
    exact ⟨k, [], h.1.open, h.1.inv.n, by simp, fun _ => ⟨rfl, rfl⟩, fun hh => by omega⟩
  · have hl : s.length - old.length = (appB kw t v b).length := by rw [hss, List.length_append]; omega
    rw [hl] at hm ⊢
    obtain ⟨g, al, ho, hf, ha, hc⟩ := hs.torn hn b h1 h2 h3 h4 h5 m hm
    have e : s.take (old.length + m) = old ++ (appB kw t v b).take m := by rw [hss, List.take_length_add_append]
    rw [e]
    refine ⟨g, al, ho, ?_, ha, fun hh => by rw [hk]; exact hf hh, fun hh => ?_⟩
    · rcases Nat.lt_or_ge m (appB kw t v b).length with hh | hh
      · rcases hc hh with e | e
        · rw [e]; exact hs.inv.n
        · rw [e]; exact hs.inv.n
      · rw [(hf (by omega)).1, ← hk]; exact h.1.inv.n
    · rcases hc hh with e | e
      · rw [e]; exact ⟨⟨rfl, rfl, rfl⟩, Or.inl ⟨rfl, rfl, rfl⟩⟩
      · rw [e, hk]; exact ⟨⟨rfl, rfl, rfl⟩, Or.inr ⟨rfl, rfl, rfl⟩⟩
abbrev FF (P A : Nat) : Nat → Prop := fun b => b ≠ P ∧ b ≠ A
/-- what stands at a round's head -/
structure CrashAt (w wr : World) (C P A i : Nat) (k kw : Kp) (s old : List UInt8) (m1 m2 m3 : Option Addr) (mp1 mp2 mp3 : Nat) (ev x y z cx cy cz ew xw yw zw dx dy dz : Value) : Prop where
  kp : KpAt (FF P A) wr P k ev x y z cx cy cz
  ka : KpAt (FF P A) wr A kw ew xw yw zw dx dy dz
  cb : wr.heap[C]? = some (.cells #[.slice m1 2 mp1, .slice m2 0 mp2, .slice m3 0 mp3] 24 (0, 0))
  c : ConfG (FF P A) wr (.slice m1 2 mp1) (.slice m2 0 mp2) (.slice m3 0 mp3) c12
  wb : Below w.heap.size w wr
  p : PlainSt i k kw s old
/-- how a round ends -/
def RoundC (w wx : World) (C P A i : Nat) (v9 v10 : Value) (m1 m2 m3 : Option Addr) (mp1 mp2 mp3 : Nat) : Prop :=
  ∃ (k kw : Kp) (s old : List UInt8) (ev x y z cx cy cz ew xw yw zw dx dy dz : Value), v9 = str s ∧ v10 = str old ∧ Hid (CrashAt w wx C P A i k kw s old m1 m2 m3 mp1 mp2 mp3 ev x y z cx cy cz ew xw yw zw dx dy dz)
theorem KpAt.chg {F : Nat → Prop} {w w' : World} {P M : Nat} {k : Kp} {ev x y z cx cy cz : Value} (h : KpAt F w P k ev x y z cx cy cz) (hc : Chg (fun b => b = M) w w') (hM : ¬ F M) (hP : P ≠ M) : KpAt F w' P k ev x y z cx cy cz := by
  have ha : Agree F w w' := hc.agree (fun b hb e => hM (e ▸ hb))
  exact ⟨hc.at h.blk hP, h.es.frame (Plain.good _) ha, h.sc.frame ha, h.cf.frame ha, h.np⟩
theorem KpAt.put {F : Nat → Prop} {w w' : World} {P : Nat} {k k' : Kp} {ev x y z cx cy cz ev' x' y' z' cx' cy' cz' : Value} (h : KpAt F w P k ev x y z cx cy cz) (hc : Chg (fun b => b = P) w w') (hb : w'.heap[P]? = some (.cells (cellsK k' ev' x' y' z' cx' cy' cz') 33 (0, 0))) (he : Ents F w ev' k'.es) (hs : ConfG F w x' y' z' k'.sc) (hf : ConfG F w cx' cy' cz' k'.cf) : KpAt F w' P k' ev' x' y' z' cx' cy' cz' := by
  have ha : Agree F w w' := hc.agree (fun b hb e => h.np (e ▸ hb))
  exact ⟨hb, he.frame (Plain.good _) ha, hs.frame ha, hf.frame ha, h.np⟩
theorem own_fourA {S : Nat} {w : World} {a : Option Addr} {n c : Nat} {x0 x1 x2 x3 : ActP} (h : OwnA S w (.slice a n c) [x0, x1, x2, x3]) : ∃ g, a = some ⟨g, 0, none⟩ ∧ n = 4 ∧ w.cell? ⟨g, 10, none⟩ = some (.int .i64 x2.what) ∧ w.cell? ⟨g, 15, none⟩ = some (.int .i64 x3.what) := by
  rcases h.2 with ⟨_, h0⟩ | ⟨g, cap, cur, hv, hb, hg, hn, hc, hs, ht⟩
  · cases h0
  · injection hv with e1 e2 e3
    subst e1 e2 e3
    exact ⟨g, rfl, rfl, own_cell h (i := 10) rfl, own_cell h (i := 15) rfl⟩
theorem appB_pos {n : Nat} {k : Kp} {s : List UInt8} (h : Stk n k s) (hn : n ≤ 30) {t v : Int} (b : UInt8) (h2 : t ≤ n + 1) (h5 : v ≤ 9) : 0 < (appB k t v b).length := by
  have hen := h.en
  have hne := recB_ne (x := 1) (b := putNum t.toNat ++ (putNum v.toNat ++ putNum (endK k).toNat)) (by
    have hl := putNum_len10 (n := t.toNat) (by omega)
    have hl2 := putNum_len10 (n := v.toNat) (by omega)
    have hl3 := putNum_len10 (n := (endK k).toNat) (by omega)
    simp; omega)
  rw [List.length_append]
  have : 0 < (hardB t v (endK k)).length := List.length_pos_iff.2 hne
  omega
set_option maxHeartbeats 4000000 in
set_option maxRecDepth 100000 in
theorem crash_cut {v0 v1 v2 v3 v4 v5 v6 v13 v14 v15 v16 v17 v18 v19 v20 v21 v22 v23 v24 v25 v26 v27 v28 v29 v30 v31 v32 v33 v34 v35 v36 v37 v38 v39 v40 v41 v42 v43 v44 v45 v46 v47 v48 v49 v50 v51 v52 v53 v54 v55 v56 v57 v58 v59 v60 v61 v62 v63 v64 v65 v66 v67 v68 v69 v70 v71 v72 v73 v74 v75 v76 v77 v78 v79 v80 v81 v82 v83 v84 v85 v86 v87 v88 v89 v90 v91 v92 v93 v94 v95 v96 v97 v98 v99 v100 v101 v102 v103 v104 v105 v106 v107 v108 v109 v110 v111 v112 v113 v114 v115 v116 v117 v118 v119 v120 v121 v122 v123 v124 v125 v126 v127 v128 v129 v130 v131 v132 v133 v134 v135 v136 v137 v138 v139 v140 v141 v142 v143 v144 v145 v146 v147 v148 v149 v150 v151 v152 v153 v154 v155 v156 v157 v158 v159 v160 v161 v162 v163 v164 v165 v166 v167 v168 v169 v170 v171 v172 v173 v174 v175 v176 v177 v178 v179 v180 v181 v182 v183 v184 v185 v186 v187 v188 v189 v190 v191 v192 v193 v194 v195 v196 v197 v198 v199 v200 v201 v202 v203 v204 v205 v206 v207 v208 v209 v210 v211 v212 v213 v214 v215 v216 v217 v218 v219 v220 v221 v222 v223 v224 v225 v226 v227 v228 v229 v230 v231 v232 v233 v234 v235 v236 v237 v238 v239 v240 v241 v242 v243 v244 v245 v246 v247 v248 v249 v250 v251 v252 v253 v254 v255 v256 v257 v258 v259 v260 v261 v262 v263 v264 v265 v266 v267 v268 v269 v270 v271 v272 v273 v274 v275 v276 v277 v278 v279 v280 v281 v282 v283 v284 v285 v286 v287 v288 v289 v290 v291 v292 v293 v294 v295 v296 v297 v298 v299 v300 v301 v302 v303 v304 v305 v306 v307 v308 : Value} (w W : World) (C P A i : Nat) (k kw : Kp) (t v : Int) (b : UInt8) (s s1 old : List UInt8) (m1 m2 m3 : Option Addr) (mp1 mp2 mp3 : Nat) (xe1 : Option Addr) (xf1 : Nat) (cx cy cz ew xw yw zw dx dy dz : Value)
    (HQ : Hid (KpAt (FF P A) W P (cutK k t v b) (.slice xe1 1 xf1) (.slice m1 2 mp1) (.slice m2 0 mp2) (.slice m3 0 mp3) cx cy cz)) (HA : Hid (KpAt (FF P A) W A k ew xw yw zw dx dy dz))
    (HC : Hid (W.heap[C]? = some (.cells #[.slice m1 2 mp1, .slice m2 0 mp2, .slice m3 0 mp3] 24 (0, 0)))) (Hc : Hid (ConfG (FF P A) W (.slice m1 2 mp1) (.slice m2 0 mp2) (.slice m3 0 mp3) c12))
    (HW : Hid (Below w.heap.size w W)) (Hp : Hid (PlainSt i k kw s old)) (Hs1 : Hid (s1 = s ++ appB k t v b)) (Ht : Hid (1 ≤ t ∧ t ≤ i + 1 ∧ k.t ≤ t ∧ 0 ≤ v ∧ v ≤ 9)) (hi : i < 30) (Hbs : Hid (k.base < endK k))
    (HB : Hid (P ≠ A ∧ C ≠ P ∧ C ≠ A ∧ w.heap.size ≤ P ∧ w.heap.size ≤ A))
    (K : Act → World → Prop)
    (HK : Hid (∀ (u6 u9 u10 u17 u168 u169 u170 u171 u172 u173 u174 u175 u176 u177 u178 u179 u180 u181 u182 u183 u184 u185 u186 u187 u188 u189 u190 u191 u192 u193 u194 u195 u196 u197 u198 u199 u200 u201 u202 : Value) (wx : World), RoundC w wx C P A (i + 1) u9 u10 m1 m2 m3 mp1 mp2 mp3 → K ⟨#[v0, v1, v2, v3, v4, v5, u6, .pointer (some ⟨C, 0, none⟩), .pointer (some ⟨P, 0, none⟩), u9, u10, .pointer (some ⟨A, 0, none⟩), .int .i64 (i : Int), v13, v14, v15, v16, u17, v18, v19, v20, v21, v22, v23, v24, v25, v26, v27, v28, v29, v30, v31, v32, v33, v34, v35, v36, v37, v38, v39, v40, v41, v42, v43, v44, v45, v46, v47, v48, v49, v50, v51, v52, v53, v54, v55, v56, v57, v58, v59, v60, v61, v62, v63, v64, v65, v66, v67, v68, v69, v70, v71, v72, v73, v74, v75, v76, v77, v78, v79, v80, v81, v82, v83, v84, v85, v86, v87, v88, v89, v90, v91, v92, v93, v94, v95, v96, v97, v98, v99, v100, v101, v102, v103, v104, v105, v106, v107, v108, v109, v110, v111, v112, v113, v114, v115, v116, v117, v118, v119, v120, v121, v122, v123, v124, v125, v126, v127, v128, v129, v130, v131, v132, v133, v134, v135, v136, v137, v138, v139, v140, v141, v142, v143, v144, v145, v146, v147, v148, v149, v150, v151, v152, v153, v154, v155, v156, v157, v158, v159, v160, v161, v162, v163, v164, v165, v166, v167, u168, u169, u170, u171, u172, u173, u174, u175, u176, u177, u178, u179, u180, u181, u182, u183, u184, u185, u186, u187, u188, u189, u190, u191, u192, u193, u194, u195, u196, u197, u198, u199, u200, u201, u202, v203, v204, v205, v206, v207, v208, v209, v210, v211, v212, v213, v214, v215, v216, v217, v218, v219, v220, v221, v222, v223, v224, v225, v226, v227, v228, v229, v230, v231, v232, v233, v234, v235, v236, v237, v238, v239, v240, v241, v242, v243, v244, v245, v246, v247, v248, v249, v250, v251, v252, v253, v254, v255, v256, v257, v258, v259, v260, v261, v262, v263, v264, v265, v266, v267, v268, v269, v270, v271, v272, v273, v274, v275, v276, v277, v278, v279, v280, v281, v282, v283, v284, v285, v286, v287, v288, v289, v290, v291, v292, v293, v294, v295, v296, v297, v298, v299, v300, v301, v302, v303, v304, v305, v306, v307, v308], []⟩ wx)) :
    Code.wp Try.prog ((Try.f3.body.bind (seqAt 29)).getD .skip) (Exit.then K (fun _ _ _ => False)) ⟨#[v0, v1, v2, v3, v4, v5, v6, .pointer (some ⟨C, 0, none⟩), .pointer (some ⟨P, 0, none⟩), str s1, str s, .pointer (some ⟨A, 0, none⟩), .int .i64 (i : Int), v13, v14, v15, v16, v17, v18, v19, v20, v21, v22, v23, v24, v25, v26, v27, v28, v29, v30, v31, v32, v33, v34, v35, v36, v37, v38, v39, v40, v41, v42, v43, v44, v45, v46, v47, v48, v49, v50, v51, v52, v53, v54, v55, v56, v57, v58, v59, v60, v61, v62, v63, v64, v65, v66, v67, v68, v69, v70, v71, v72, v73, v74, v75, v76, v77, v78, v79, v80, v81, v82, v83, v84, v85, v86, v87, v88, v89, v90, v91, v92, v93, v94, v95, v96, v97, v98, v99, v100, v101, v102, v103, v104, v105, v106, v107, v108, v109, v110, v111, v112, v113, v114, v115, v116, v117, v118, v119, v120, v121, v122, v123, v124, v125, v126, v127, v128, v129, v130, v131, v132, v133, v134, v135, v136, v137, v138, v139, v140, v141, v142, v143, v144, v145, v146, v147, v148, v149, v150, v151, v152, v153, v154, v155, v156, v157, v158, v159, v160, v161, v162, v163, v164, v165, v166, v167, v168, v169, v170, v171, v172, v173, v174, v175, v176, v177, v178, v179, v180, v181, v182, v183, v184, v185, v186, v187, v188, v189, v190, v191, v192, v193, v194, v195, v196, v197, v198, v199, v200, v201, v202, v203, v204, v205, v206, v207, v208, v209, v210, v211, v212, v213, v214, v215, v216, v217, v218, v219, v220, v221, v222, v223, v224, v225, v226, v227, v228, v229, v230, v231, v232, v233, v234, v235, v236, v237, v238, v239, v240, v241, v242, v243, v244, v245, v246, v247, v248, v249, v250, v251, v252, v253, v254, v255, v256, v257, v258, v259, v260, v261, v262, v263, v264, v265, v266, v267, v268, v269, v270, v271, v272, v273, v274, v275, v276, v277, v278, v279, v280, v281, v282, v283, v284, v285, v286, v287, v288, v289, v290, v291, v292, v293, v294, v295, v296, v297, v298, v299, v300, v301, v302, v303, v304, v305, v306, v307, v308], []⟩ W := by
  conv => arg 2; whnf
  obtain ⟨b1, bp1, h1a, _⟩ := len_of_Ints HQ.out.cf.v.ints
  obtain ⟨b2, bp2, h2a, _⟩ := len_of_Ints HQ.out.cf.n.ints
  obtain ⟨b3, bp3, h3a, _⟩ := len_of_Ints HQ.out.cf.l.ints
  subst h1a h2a h3a
  have HQ : Hid (KpAt (FF P A) W P (cutK k t v b) (.slice xe1 1 xf1) (.slice m1 2 mp1) (.slice m2 0 mp2) (.slice m3 0 mp3) (.slice b1 2 bp1) (.slice b2 0 bp2) (.slice b3 0 bp3)) := HQ
  have hst := Hp.out.1.cut (t := t) (v := v) (by omega) b Ht.out.1 Ht.out.2.1 Ht.out.2.2.1 Ht.out.2.2.2.1 Ht.out.2.2.2.2 Hbs.out (putSnapB_len _ _ _ _)
  have hst1 := Hp.out.1.app (t := t) (v := v) (by omega) b Ht.out.1 Ht.out.2.1 Ht.out.2.2.1 Ht.out.2.2.2.1 Ht.out.2.2.2.2
  have hpos := appB_pos Hp.out.1 (by omega) b (v := v) Ht.out.2.1 Ht.out.2.2.2.2
  have Hst := Lib.hid hst
  have Hl1 : Hid (s1.length ≤ 1000000 ∧ 0 < s1.length) := by
    show _ ∧ _
    have h1 := hst1.len
    rw [← Hs1.out] at h1
    have h2 : s1.length = s.length + (appB k t v b).length := by rw [Hs1.out, List.length_append]
    exact ⟨by omega, by omega⟩
  have HCut : Hid (Calls Try.prog 7 #[.agg (cellsK (cutK k t v b) (.slice xe1 1 xf1) (.slice m1 2 mp1) (.slice m2 0 mp2) (.slice m3 0 mp3) (.slice b1 2 bp1) (.slice b2 0 bp2) (.slice b3 0 bp3))] W fun e w' => ∃ v', e = .returned v' ∧ OwnA W.heap.size w' v' [⟨1, nNew, [], cutB k t v b, 0⟩, ⟨3, nNew, [], [], 0⟩, ⟨4, nNew, nLog, [], 0⟩, ⟨5, [], [], [], 0⟩] ∧ Below W.heap.size W w') := cut_wal (cutK k t v b) _ _ _ _ _ _ _ _ W HQ.out.es HQ.out.sc.conf HQ.out.cf.conf (by simp) hst.inv.t hst.inv.v hst.inv.c (Nat.le_trans (putSnapB_len _ _ _ _) (by decide))
  have HIs : Hid (∀ w1, Below W.heap.size W w1 → Calls Try.prog 8 #[.agg (cellsK (cutK k t v b) (.slice xe1 1 xf1) (.slice m1 2 mp1) (.slice m2 0 mp2) (.slice m3 0 mp3) (.slice b1 2 bp1) (.slice b2 0 bp2) (.slice b3 0 bp3)), str (cutB k t v b), .agg #[.slice m1 2 mp1, .slice m2 0 mp2, .slice m3 0 mp3]] w1 fun e w' => e = .returned (.bool true) ∧ Below w1.heap.size w1 w') := by
    show ∀ w1, _ → _
    intro w1 hb
    have hk1 := HQ.out.below hb
    exact is_law (cutK k t v b) _ _ _ _ _ _ _ (cutB k t v b) _ _ _ _ w1 hk1.es hk1.sc.conf hk1.cf.conf (Hc.out.frame (Agree.below hb)).conf (by have := hst.len; omega) (by simp) hst.open
  have Hld : Hid ((cutB k t v b).length ≤ 1000000) := by show _ ≤ _; have := hst.len; omega
  obtain ⟨d, hd⟩ := hide (cutB k t v b)
  rw [hd.out] at HCut HIs Hld
  have HDn : Hid (∀ w1 v2 F, Acs F w1 v2 [⟨1, nNew, [], d, 0⟩, ⟨3, nNew, [], [], 0⟩, ⟨4, nNew, nLog, [], 0⟩, ⟨5, [], [], [], 0⟩] → Calls Try.prog 6 #[str s1, v2] w1 fun e w' => e = .returned (str d) ∧ Below w1.heap.size w1 w') := by
    show ∀ w1 v2 F, _ → _
    intro w1 v2 F h
    have := done_law s1 v2 (cutA d) F w1 h Hl1.out.1 (by intro a ha; simp only [cutA, List.mem_cons, List.not_mem_nil, or_false] at ha; rcases ha with rfl | rfl | rfl | rfl; exact Hld.out; all_goals exact Nat.zero_le _) (by show 4 ≤ 8; decide)
    rwa [doneP_cut] at this
  clear hst hst1 hpos
  go_upto_region 29 with fail
  refine wp_region_lit ?_
  refine wpList_load_row rfl 33 (.tmp 8) rfl P rfl 33 (cellsK (cutK k t v b) (.slice xe1 1 xf1) (.slice m1 2 mp1) (.slice m2 0 mp2) (.slice m3 0 mp3) (.slice b1 2 bp1) (.slice b2 0 bp2) (.slice b3 0 bp3)) (0, 0) _ HQ.out.blk Try.underlying33 rfl size_kept ?_
  go_wp2_with fail
  refine HCut.out.mono ?_
  rintro e w1 ⟨v1, rfl, ho1, hb1⟩
  obtain ⟨a1, c1, rfl⟩ := owns_slice ho1
  have HAc := Lib.hid (OwnA.acsC ho1)
  obtain ⟨g1, rfl, -, x2, x3⟩ := own_fourA ho1
  have Hb1 := Lib.hid hb1
  have HD1 := Lib.hid (HDn.out w1 _ _ HAc.out)
  clear hb1 ho1
  dsimp only at x2 x3
  dsimp only
  go_upto_region 32 with fail
  clear x2 x3
  go_wp2_with fail
  refine HD1.out.mono ?_
  rintro e w2 ⟨rfl, hb2⟩
  have Hb2 : Hid (Below W.heap.size W w2) := Hb1.out.trans (hb2.mono Hb1.out.size)
  have HK2 := Lib.hid (HQ.out.below Hb2.out)
  have HC2 : Hid (w2.heap[C]? = _) := (Hb2.out.block C (lt_of_block HC.out)).trans HC.out
  have HI2 := Lib.hid (HIs.out w2 Hb2.out)
  clear hb2
  have ca0 := cell_n HK2.out.blk 0 (v := .int .i64 t) rfl
  have ca1 := cell_n HK2.out.blk 1 (v := .int .i64 v) rfl
  have ca2 := cell_n HK2.out.blk 2 (v := .int .i64 (endK k)) rfl
  have ca3 := cell_n HK2.out.blk 3 (v := .int .i64 (endK k)) rfl
  have ca4 := cell_n HK2.out.blk 4 (v := .int .i64 (lastT k.bt k.es)) rfl
  have ca5 := cell_n HK2.out.blk 5 (v := .slice xe1 1 xf1) rfl
  have ca6 := cell_n HK2.out.blk 6 (v := .int .i64 (endK k)) rfl
  have ca7 := cell_n HK2.out.blk 7 (v := .int .i64 (lastT k.bt k.es)) rfl
  have ca8 := cell_n HK2.out.blk 8 (v := .slice m1 2 mp1) rfl
  have ca9 := cell_n HK2.out.blk 9 (v := .slice m2 0 mp2) rfl
  have ca10 := cell_n HK2.out.blk 10 (v := .slice m3 0 mp3) rfl
  have ca11 := cell_n HK2.out.blk 11 (v := str [115, 116, 97, 116, 101]) rfl
  have ca12 := cell_n HK2.out.blk 12 (v := .slice b1 2 bp1) rfl
  have ca13 := cell_n HK2.out.blk 13 (v := .slice b2 0 bp2) rfl
  have ca14 := cell_n HK2.out.blk 14 (v := .slice b3 0 bp3) rfl
  have ce0 := cell_n HC2.out 0 (v := .slice m1 2 mp1) rfl
  have ce1 := cell_n HC2.out 1 (v := .slice m2 0 mp2) rfl
  have ce2 := cell_n HC2.out 2 (v := .slice m3 0 mp3) rfl
  have hp1 : decide (0 < s1.length) = true := decide_eq_true Hl1.out.2
  have hp2 : decide (0 < (s1.length : Int)) = true := decide_eq_true (by have := Hl1.out.2; omega)
  dsimp only
  go_wp2_with fail
  refine HI2.out.mono ?_
  rintro e w3 ⟨rfl, hb3⟩
  have Hb3 : Hid (Below W.heap.size W w3) := Hb2.out.trans (hb3.mono Hb2.out.size)
  have HK3 := Lib.hid (HQ.out.below Hb3.out)
  have HA3 := Lib.hid (HA.out.below Hb3.out)
  have HC3 : Hid (w3.heap[C]? = _) := (Hb3.out.block C (lt_of_block HC.out)).trans HC.out
  have Hc3 := Lib.hid (Hc.out.frame (Agree.below Hb3.out))
  clear hb3 ca0 ca1 ca2 ca3 ca4 ca5 ca6 ca7 ca8 ca9 ca10 ca11 ca12 ca13 ca14 ce0 ce1 ce2 hp1 hp2
  dsimp only
  have Hth : Hid (w3.there A 0 15) := there_ofW HA3.out.blk
  have HE : Hid (∀ X, X = setAll w3 A (cellsK (cutK k t v b) (.slice xe1 1 xf1) (.slice m1 2 mp1) (.slice m2 0 mp2) (.slice m3 0 mp3) (.slice b1 2 bp1) (.slice b2 0 bp2) (.slice b3 0 bp3)).toList → RoundC w X C P A (i + 1) (str d) (str d) m1 m2 m3 mp1 mp2 mp3) := by
    show ∀ X, _ → _
    rintro X rfl
    have hc : Chg (fun b => b = A) w3 (setAll w3 A (cellsK (cutK k t v b) (.slice xe1 1 xf1) (.slice m1 2 mp1) (.slice m2 0 mp2) (.slice m3 0 mp3) (.slice b1 2 bp1) (.slice b2 0 bp2) (.slice b3 0 bp3)).toList) := chg_from A _ w3 0
    have hag : Agree (FF P A) w3 (setAll w3 A (cellsK (cutK k t v b) (.slice xe1 1 xf1) (.slice m1 2 mp1) (.slice m2 0 mp2) (.slice m3 0 mp3) (.slice b1 2 bp1) (.slice b2 0 bp2) (.slice b3 0 bp3)).toList) := hc.agree (fun b hb e => hb.2 e)
    refine ⟨cutK k t v b, cutK k t v b, d, d, (.slice xe1 1 xf1), (.slice m1 2 mp1), (.slice m2 0 mp2), (.slice m3 0 mp3), (.slice b1 2 bp1), (.slice b2 0 bp2), (.slice b3 0 bp3), (.slice xe1 1 xf1), (.slice m1 2 mp1), (.slice m2 0 mp2), (.slice m3 0 mp3), (.slice b1 2 bp1), (.slice b2 0 bp2), (.slice b3 0 bp3), rfl, rfl, ⟨HK3.out.chg hc (fun h => h.2 rfl) HB.out.1, ?_, hc.at HC3.out HB.out.2.2.1, Hc3.out.frame hag, ?_, ?_⟩⟩
    · exact HA3.out.put hc (setAll_at HA3.out.blk (cellsK (cutK k t v b) (.slice xe1 1 xf1) (.slice m1 2 mp1) (.slice m2 0 mp2) (.slice m3 0 mp3) (.slice b1 2 bp1) (.slice b2 0 bp2) (.slice b3 0 bp3)).toList rfl) HK3.out.es HK3.out.sc HK3.out.cf
    · have h1 : Below w.heap.size w w3 := HW.out.trans (Hb3.out.mono HW.out.size)
      exact h1.trans (hc.toBelow (fun b hb => by have := HB.out; omega) h1.size)
    · rw [← hd.out]
      exact Hp.out.cut (by omega) b Ht.out.1 Ht.out.2.1 Ht.out.2.2.1 Ht.out.2.2.2.1 Ht.out.2.2.2.2 Hbs.out
  go_upto_region 36 with fail
  refine wp_region_lit ?_
  refine wpList_load_row rfl 33 (.tmp 8) rfl P rfl 33 (cellsK (cutK k t v b) (.slice xe1 1 xf1) (.slice m1 2 mp1) (.slice m2 0 mp2) (.slice m3 0 mp3) (.slice b1 2 bp1) (.slice b2 0 bp2) (.slice b3 0 bp3)) (0, 0) _ HK3.out.blk Try.underlying33 rfl size_kept ?_
  refine wpList_store_mid rfl 33 (.tmp 11) (.tmp 201) rfl A 0 (cellsK (cutK k t v b) (.slice xe1 1 xf1) (.slice m1 2 mp1) (.slice m2 0 mp2) (.slice m3 0 mp3) (.slice b1 2 bp1) (.slice b2 0 bp2) (.slice b3 0 bp3)) rfl rfl Hth.out size_kept (by simp [Value.oneCell']) ?_
  rw [setCells_eqW]
  show wpList _ _ _ _ _ (setAll w3 A (cellsK (cutK k t v b) (.slice xe1 1 xf1) (.slice m1 2 mp1) (.slice m2 0 mp2) (.slice m3 0 mp3) (.slice b1 2 bp1) (.slice b2 0 bp2) (.slice b3 0 bp3)).toList)
  generalize setAll w3 A (cellsK (cutK k t v b) (.slice xe1 1 xf1) (.slice m1 2 mp1) (.slice m2 0 mp2) (.slice m3 0 mp3) (.slice b1 2 bp1) (.slice b2 0 bp2) (.slice b3 0 bp3)).toList = X at HE ⊢
  go_wp2_with fail
  (refine HK.out _ _ _ _ _ _ _ _ _ _ _ _ _ _ _ _ _ _ _ _ _ _ _ _ _ _ _ _ _ _ _ _ _ _ _ _ _ _ _ _ ?_; exact HE.out X rfl)
end Go.Proofs.Ytjlhlmnoomiblaa
