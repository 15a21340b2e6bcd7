/-
  ClientOnce: the middle of a round: an answer comes.
-/
import Derived.Test.YtckclacdmpcpbaaZj
namespace Go.Proofs.Ytckclacdmpcpbaa
open Go.RowKit Wm Mm Clt
set_option linter.unusedVariables false
set_option linter.unusedSimpArgs false

/-- behind stores into a block that is neither the client's nor the law's -/
theorem Cl0.other {w0 w w' : World} {C A R : Nat} {c : CliP} {asked : CmdC} {cs : Array Value} {t : TypeId} (h : Cl0 w0 w C A c asked) (hR : w.heap[R]? = some (.cells cs t (0, 0))) (h1 : t ≠ 194) (h2 : t ≠ 69) (h3 : t ≠ 3) (hc : Chg (fun j => j = R) w w') (hlo : w0.heap.size ≤ R) (hres : c.res = false) : Cl0 w0 w' C A c asked := by
  have hne : ∀ {b : Nat} {ds : Array Value} {u : TypeId}, w.heap[b]? = some (.cells ds u (0, 0)) → t ≠ u → b ≠ R := fun k1 k2 e => by
    subst e
    rw [k1] at hR
    injection hR with hR
    injection hR with _ h4 _
    exact k2 h4.symm
  obtain ⟨g, cap, wv, rv, k1, k2, k3, k4⟩ := h.x.ex
  refine ⟨⟨g, cap, wv, rv, hc.at k1 (hne k1 h1), own_chg k2 hc (fun j hj e => ?_), ?_, ?_⟩, hc.at h.a (hne h.a h2), h.lowC, h.lowA, h.bel.trans (hc.toBelow (fun j e => by rw [e]; exact hlo) h.bel.size)⟩
  · rcases k2.2 with ⟨hv0, _⟩ | ⟨g', cap', cur, hv0, _, hg', _⟩
    · cases hv0
    · have e2 : g' = j := by rw [hv0] at hj; simpa [Value.ownBlock] using hj
      subst e2
      exact hne hg' h3 e
  · revert k3
    cases c.want with
    | none => exact fun h => h
    | some y => exact fun ⟨b, q1, q2⟩ => ⟨b, q1, hc.at q2 (hne q2 h2)⟩
  · rw [hres] at k4 ⊢
    exact k4
set_option maxHeartbeats 4000000 in
set_option maxRecDepth 100000 in
theorem piece_42 {v0 v2 v3 v4 v5 v6 v8 v11 v14 v15 v16 v17 v20 v21 v22 v23 v24 v25 v26 v27 v28 v29 v30 v31 v32 v33 v34 v35 v36 v37 v38 v39 v40 v41 v42 v43 v44 v45 v46 v47 v48 v49 v50 v51 v52 v53 v54 v55 v56 v57 v58 v59 v60 v61 v62 v63 v64 v65 v66 v67 v68 v69 v70 v71 v72 v73 v74 v75 v76 v77 v78 v79 v80 v81 v82 v83 v84 v85 v86 v87 v88 v89 v90 v91 v92 v93 v94 v95 v96 v97 v98 v99 v100 v101 v102 v103 v104 v105 v106 v107 v108 v109 v110 v111 v112 v113 v114 v115 v116 v117 v118 v119 v120 v121 v122 v123 v124 v125 v126 v127 v128 v129 v130 v131 v132 v133 v134 v135 v136 v137 v138 v139 v140 v141 v142 v143 v144 v145 v146 v147 v148 v149 v150 v151 v152 v153 v154 v155 v156 v157 v158 v159 v160 v161 v162 v163 v164 v165 v166 v167 v168 v169 v170 v171 v172 v173 v174 v175 v176 v177 v178 v179 v180 v181 v182 v183 v184 v185 v186 v187 v188 v189 v190 v191 v192 v193 v194 v195 v196 v197 v198 v199 v200 v201 v202 v203 v204 v205 v206 v207 v208 v209 v210 v211 v212 v213 v214 v215 v216 v217 v218 v219 v220 v221 v222 v223 v224 v225 v226 v227 v228 v229 v230 v231 v232 v233 v234 v235 v236 v237 v238 v239 v240 v241 v242 v243 v244 v245 v246 v247 v248 v249 v250 v251 v252 v253 v254 v255 v256 v257 v258 v259 v260 v261 v262 v263 v264 v265 v266 v267 v268 : Value} {s2 n2 T18 : Nat} {bi : Bool} (n sc b off C A i k : Nat) (w0 : World) (l : List AnsP) (G : Nat → Prop)
    (HF : Hid (∀ w', Below w0.heap.size w0 w' → Sl 6 RAns G w' (.slice (some ⟨b, off, none⟩) n sc) l)) (hn : l.length = n) (HG : Hid (∀ g, G g → g < w0.heap.size)) (hlt : i < n) (hbig : n ≤ 16384)
    (Hr : Hid (∀ x ∈ l, i64c x.tok ∧ i64c x.kind ∧ i64c x.ver ∧ x.keys.length ≤ 8796093022000))
    (W : World) (c1 c2 : CliP) (ak : AskC) (asked asked0 : CmdC) (s0 n0 : Nat)
    (hs2 : s2 ≤ 50) (hn2 : n2 ≤ 4 * i + 1) (hm : c2.m = k)
    (HS : Hid (Cl0 w0 W C A c2 asked)) (HO : Hid (OkC (4 * i + 1) c2)) (HSee : Hid (Sees c2 s2 n2 asked)) (HSee1 : Hid (Sees c1 s0 n0 asked0)) (h12 : (nextC c1).1 = c2) (hbi : (nextC c1).2 = bi) (hak : askC c1 = ak) (hres : c2.res = false) (htw : nextC c2 = (c2, false))
    (HT : Hid (W.heap[T18]? = some (.cells (rowA ak).toArray 78 (0, 0))))
    (K : Act → World → Prop)
    (HK : Hid (∀ (u4 u21 u22 u23 u24 u25 u26 u27 u28 u180 u181 u182 u183 u184 u185 u186 u187 u188 u189 u190 u191 u192 u193 u194 u195 u196 u197 u198 u199 u200 u201 u202 u203 u204 u205 u206 u207 u208 u209 u210 u211 u212 u213 u214 u215 u216 u217 u218 u219 u220 u221 u222 u223 u224 u225 u226 u227 u228 u229 u230 u231 u232 u233 u234 u235 u236 u237 u238 u239 u240 u241 u242 u243 u244 u245 u246 u247 u248 u249 u250 u251 u252 u253 u254 u255 u256 u257 u258 u259 u260 u261 u262 u263 u264 u265 u266 u267 u268 : Value) (wx : World), RoundEnd w0 wx C A i k (.int .i64 (s2 : Int)) (.int .i64 (n2 : Int)) (.int .i64 (c2.last : Int)) → K ⟨#[v0, .slice (some ⟨b, off, none⟩) n sc, v2, v3, u4, v5, v6, .pointer (some ⟨C, 0, none⟩), v8, .int .i64 (s2 : Int), .int .i64 (n2 : Int), v11, .int .i64 (c2.last : Int), .int .i64 (i : Int), v14, v15, v16, v17, .pointer (some ⟨T18, 0, none⟩), .bool bi, v20, u21, u22, u23, u24, u25, u26, u27, u28, v29, v30, v31, v32, v33, v34, v35, v36, v37, v38, v39, v40, v41, v42, v43, v44, v45, v46, v47, v48, v49, v50, v51, v52, v53, v54, v55, v56, v57, v58, v59, v60, v61, v62, v63, v64, v65, v66, v67, v68, v69, v70, v71, v72, v73, v74, v75, v76, v77, v78, v79, v80, v81, v82, v83, v84, v85, v86, v87, v88, v89, v90, v91, v92, v93, v94, v95, v96, v97, v98, v99, v100, v101, v102, v103, v104, v105, v106, v107, v108, v109, v110, v111, v112, v113, v114, v115, v116, v117, v118, v119, v120, v121, v122, v123, v124, v125, v126, v127, v128, v129, v130, v131, v132, v133, v134, v135, v136, v137, v138, v139, v140, v141, v142, v143, v144, v145, v146, v147, v148, v149, v150, v151, v152, v153, v154, v155, v156, v157, v158, v159, v160, v161, v162, v163, v164, v165, v166, v167, v168, v169, v170, v171, v172, v173, v174, v175, v176, v177, v178, v179, u180, u181, u182, u183, u184, u185, u186, u187, u188, u189, u190, u191, u192, u193, u194, u195, u196, u197, u198, u199, u200, u201, u202, u203, u204, u205, u206, u207, u208, u209, u210, u211, u212, u213, u214, u215, u216, u217, u218, u219, u220, u221, u222, u223, u224, u225, u226, u227, u228, u229, u230, u231, u232, u233, u234, u235, u236, u237, u238, u239, u240, u241, u242, u243, u244, u245, u246, u247, u248, u249, u250, u251, u252, u253, u254, u255, u256, u257, u258, u259, u260, u261, u262, u263, u264, u265, u266, u267, u268], []⟩ wx)) :
    Code.wp Try.prog ((Try.f5.body.bind (seqAt 42)).getD .skip) (Exit.then K fun _ _ _ => False) ⟨#[v0, .slice (some ⟨b, off, none⟩) n sc, v2, v3, v4, v5, v6, .pointer (some ⟨C, 0, none⟩), v8, .int .i64 (s2 : Int), .int .i64 (n2 : Int), v11, .int .i64 (c2.last : Int), .int .i64 (i : Int), v14, v15, v16, v17, .pointer (some ⟨T18, 0, none⟩), .bool bi, v20, v21, v22, v23, v24, v25, v26, v27, v28, v29, v30, v31, v32, v33, v34, v35, v36, v37, v38, v39, v40, v41, v42, v43, v44, v45, v46, v47, v48, v49, v50, v51, v52, v53, v54, v55, v56, v57, v58, v59, v60, v61, v62, v63, v64, v65, v66, v67, v68, v69, v70, v71, v72, v73, v74, v75, v76, v77, v78, v79, v80, v81, v82, v83, v84, v85, v86, v87, v88, v89, v90, v91, v92, v93, v94, v95, v96, v97, v98, v99, v100, v101, v102, v103, v104, v105, v106, v107, v108, v109, v110, v111, v112, v113, v114, v115, v116, v117, v118, v119, v120, v121, v122, v123, v124, v125, v126, v127, v128, v129, v130, v131, v132, v133, v134, v135, v136, v137, v138, v139, v140, v141, v142, v143, v144, v145, v146, v147, v148, v149, v150, v151, v152, v153, v154, v155, v156, v157, v158, v159, v160, v161, v162, v163, v164, v165, v166, v167, v168, v169, v170, v171, v172, v173, v174, v175, v176, v177, v178, v179, v180, v181, v182, v183, v184, v185, v186, v187, v188, v189, v190, v191, v192, v193, v194, v195, v196, v197, v198, v199, v200, v201, v202, v203, v204, v205, v206, v207, v208, v209, v210, v211, v212, v213, v214, v215, v216, v217, v218, v219, v220, v221, v222, v223, v224, v225, v226, v227, v228, v229, v230, v231, v232, v233, v234, v235, v236, v237, v238, v239, v240, v241, v242, v243, v244, v245, v246, v247, v248, v249, v250, v251, v252, v253, v254, v255, v256, v257, v258, v259, v260, v261, v262, v263, v264, v265, v266, v267, v268], []⟩ W := by
  conv => arg 2; whnf
  have Hn := Lib.hid hn
  have Hm := Lib.hid hm
  have H12 := Lib.hid h12
  have Hbi := Lib.hid hbi
  have Hak := Lib.hid hak
  have Hres := Lib.hid hres
  have hlast := HO.out.last
  have KN := Lib.hid (ask_law c2 _ W C HS.out.x HO.out (by omega))
  rw [htw] at KN
  obtain ⟨ak2, hak2⟩ := hide (askC c2)
  rw [hak2.out] at KN
  clear hn hm h12 hbi hak hres htw
  go_wp2_with fail
  refine KN.out.mono ?_
  rintro e w1 ⟨rfl, hx1, hc1⟩
  have HS1 := Lib.hid (HS.out.call hx1 hc1)
  have HT1 : Hid (w1.heap[T18]? = some (.cells (rowA ak).toArray 78 (0, 0))) := hc1.at HT.out (t18_ne HS.out.x HT.out (by decide))
  obtain ⟨W2, hW2⟩ := hide (w1.alloc (.cells #[.int .i64 (ak2.id : Int), .int .i64 (ak2.node : Int), .int .i64 (ak2.cl : Int), .int .i64 (ak2.num : Int), .int .i64 ak2.cmd.kind, str ak2.cmd.key, str ak2.cmd.val, .int .i64 ak2.cmd.iff, .int .i64 0] 78))
  have HbW2 : Hid (Below w1.heap.size w1 W2) := by show Below _ _ _; rw [← hW2.out]; exact (Below.refl _ _).alloc (Nat.le_refl _) _
  have HS2 := Lib.hid (HS1.out.new HbW2.out)
  have HT2 : Hid (W2.heap[T18]? = some (.cells (rowA ak).toArray 78 (0, 0))) := (HbW2.out.block T18 (lt_of_block HT1.out)).trans HT1.out
  clear KN hx1 hc1
  go_upto_region 45 with fail
  rw [hW2.out]
  obtain ⟨b', off', us, e1, hGb, _, ⟨kv, hus, hkeys⟩, hcs⟩ := (HF.out _ HS2.out.bel).at (k := i) (by rw [Hn.out]; exact hlt)
  obtain ⟨hil, hyl⟩ := List.getElem?_eq_some_iff.1 (List.getElem?_eq_getElem (l := l) (i := i) (by rw [Hn.out]; exact hlt))
  obtain ⟨y, hy⟩ := hide l[i]
  have Hy : Hid (l[i]? = some y) := by show _ = _; rw [← hy.out]; exact List.getElem?_eq_getElem _
  rw [hy.out] at hus hkeys
  subst hus
  injection e1 with e1
  injection e1 with e1 e2 _
  subst e1
  subst e2
  have Hcs := Lib.hid hcs
  obtain ⟨ka, kc, rfl, _, _⟩ := hkeys.slice
  obtain ⟨kn, hkn⟩ := hide y.keys.length
  have Hkeys := Lib.hid hkeys
  have HGb := Lib.hid hGb
  clear hcs hkeys hyl hGb
  have g2 : W2.cell? ⟨b, off + i * 6 + 2, none⟩ = some (.int .i64 y.kind) := Hcs.out 2 _ rfl
  have g3 : W2.cell? ⟨b, off + i * 6 + 2 + 1, none⟩ = some (str y.val) := Hcs.out 3 _ rfl
  have g4 : W2.cell? ⟨b, off + i * 6 + 2 + 2, none⟩ = some (.int .i64 y.ver) := Hcs.out 4 _ rfl
  have g5 : W2.cell? ⟨b, off + i * 6 + 2 + 3, none⟩ = some (.slice ka kn kc) := by rw [← hkn.out]; exact Hcs.out 5 _ rfl
  have hii : (i : Int) < (n : Int) := by omega
  obtain ⟨W3, hW3⟩ := hide (W2.alloc (.cells #[.int .i64 y.kind, str y.val, .int .i64 y.ver, .slice ka kn kc] 82))
  have HbW3 : Hid (Below W2.heap.size W2 W3) := by show Below _ _ _; rw [← hW3.out]; exact (Below.refl _ _).alloc (Nat.le_refl _) _
  have HS3 := Lib.hid (HS2.out.new HbW3.out)
  have HT3 : Hid (W3.heap[T18]? = some (.cells (rowA ak).toArray 78 (0, 0))) := (HbW3.out.block T18 (lt_of_block HT2.out)).trans HT2.out
  have HR3 : Hid (W3.heap[W2.heap.size]? = some (.cells (#[.int .i64 y.kind, str y.val, .int .i64 y.ver, .slice ka kn kc] : Array Value) 82 (0, 0))) := by show _ = _; rw [← hW3.out]; exact hp_at _ _ rfl
  obtain ⟨T23, hT23⟩ := hide W2.heap.size
  rw [hT23.out] at HR3
  obtain ⟨hi1, hi2, hi3, hi4⟩ := Hr.out y (List.mem_of_getElem? Hy.out)
  obtain ⟨q5, hq5⟩ : ∃ p : Nat, y.kind % 5 = (p : Int) := ⟨(y.kind % 5).toNat, by omega⟩
  obtain ⟨q50, hq50⟩ : ∃ p : Nat, y.ver % 50 = (p : Int) := ⟨(y.ver % 50).toNat, by omega⟩
  obtain ⟨p3, hp3⟩ : ∃ p : Nat, y.tok % 3 = (p : Int) := ⟨(y.tok % 3).toNat, by omega⟩
  have hq5b : q5 < 5 := by omega
  have hq50b : q50 < 50 := by omega
  have K5 : Hid (∀ w1, Calls Try.prog 31 #[.int .i64 y.kind, .int .i64 5] w1 fun e w2 => e = .returned (.int .i64 (q5 : Int)) ∧ w1 = w2) := fun w1 => by rw [← hq5]; exact pickC_law y.kind 5 w1 (by omega) (by omega) hi2
  have K50 : Hid (∀ w1, Calls Try.prog 31 #[.int .i64 y.ver, .int .i64 50] w1 fun e w2 => e = .returned (.int .i64 (q50 : Int)) ∧ w1 = w2) := fun w1 => by rw [← hq50]; exact pickC_law y.ver 50 w1 (by omega) (by omega) hi3
  have Hi1 := Lib.hid hi1
  have Hi4 := Lib.hid hi4
  have Hp3 := Lib.hid hp3
  clear hi1 hi2 hi3 hi4 hq5 hq50 hp3
  go_upto_region 46 with fail
  rw [hW3.out]
  try rw [hT23.out]
  clear g2 g3 g4 g5
  have r0 := cell_n HR3.out 0 (v := .int .i64 y.kind) rfl
  have f0 := free_n HR3.out 0
  obtain ⟨W4, hW4⟩ := hide (W3.setCell ⟨T23, 0, none⟩ (.int .i64 (1 + (q5 : Int))))
  have HcW4 : Hid (Chg (fun j => j = T23) W3 W4) := by show Chg _ _ _; rw [← hW4.out]; exact Chg.setCell (F := fun j => j = T23) (a := ⟨T23, 0, none⟩) W3 rfl _
  have HR4 : Hid (W4.heap[T23]? = some (.cells (#[.int .i64 (1 + (q5 : Int)), str y.val, .int .i64 y.ver, .slice ka kn kc] : Array Value) 82 (0, 0))) := by show _ = _; rw [← hW4.out, heap_setCell, if_pos rfl, HR3.out]; rfl
  go_upto_region 47 with (go_at_call 31; refine (K5.out _).mono ?_; rintro e w' ⟨rfl, rfl⟩)
  rw [hW4.out]
  clear r0 f0
  have r2 := cell_n HR4.out 2 (v := .int .i64 y.ver) rfl
  have f2 := free_n HR4.out 2
  obtain ⟨W5, hW5⟩ := hide (W4.setCell ⟨T23, 2, none⟩ (.int .i64 (1 + (q50 : Int))))
  have HcW5 : Hid (Chg (fun j => j = T23) W3 W5) := by show Chg _ _ _; rw [← hW5.out]; exact HcW4.out.trans (Chg.setCell (F := fun j => j = T23) (a := ⟨T23, 2, none⟩) W4 rfl _)
  obtain ⟨v50, hv50⟩ : ∃ v : Nat, v = 1 + q50 := ⟨_, rfl⟩
  have HR5 : Hid (W5.heap[T23]? = some (.cells (#[.int .i64 (1 + (q5 : Int)), str y.val, .int .i64 (v50 : Int), .slice ka kn kc] : Array Value) 82 (0, 0))) := by
    show _ = _
    rw [← hW5.out, heap_setCell, if_pos rfl, HR4.out, show (v50 : Int) = 1 + (q50 : Int) from by omega]; rfl
  have Hv50 := Lib.hid hv50
  clear hv50
  have HS5 : Hid (Cl0 w0 W5 C A c2 asked) := HS3.out.other HR3.out (by decide) (by decide) (by decide) HcW5.out (by have h1 := HS2.out.bel.size; rw [← hT23.out]; exact h1) Hres.out
  have HT5 : Hid (W5.heap[T18]? = some (.cells (rowA ak).toArray 78 (0, 0))) := HcW5.out.at HT3.out (fun e => by
    have e' : T18 = T23 := e
    have h := HT3.out
    rw [e', HR3.out] at h
    injection h with h
    injection h with _ h _
    revert h
    decide)
  go_upto_region 48 with (go_at_call 31; refine (K50.out _).mono ?_; rintro e w' ⟨rfl, rfl⟩)
  rw [hW5.out]
  clear r2 f2
  obtain ⟨c3, hc3⟩ := hide (answerC c2 ((c2.last : Int) - (p3 : Int)) y.err (1 + (q5 : Int)) v50)
  go_cut [] from 201 to 216 (fun wx => Hid (Cl0 w0 wx C A c3 asked) ∧ Hid (Chg (OnlyC C) W5 wx))
  case first =>
    rename_i J' K' hJ' hK'
    have HC0 := HG.out b HGb.out
    have HCl := HS5.out.lowC
    obtain ⟨b', off', us, e1, _, _, ⟨kv, hus, hk5⟩, hcs⟩ := (HF.out _ HS5.out.bel).at (k := i) (by rw [Hn.out]; exact hlt)
    obtain ⟨hil2, hyl2⟩ := List.getElem?_eq_some_iff.1 Hy.out
    rw [hyl2] at hus hk5
    injection e1 with e1
    injection e1 with e1 e2 _
    subst e1
    subst e2
    subst hus
    have g0 := hcs 0 _ rfl
    have g1 := hcs 1 _ rfl
    have hk3 := Hkeys.out.frame (Plain.good _) (Agree.below (HbW3.out))
    refine piece_any (piece_answer n sc b off C A c2.last i T23 (4 * i + 1) w0 W5 y.tok y.err (1 + (q5 : Int)) p3 v50 y.val (.slice ka kn kc) y.keys G asked c2 HS5 HO (by omega) (by omega) (by omega) g0 g1 HR5 Hi1.out Hp3.out (by omega) (by omega) (by have := Hv50.out; omega) ?_ Hi4.out (fun h => by have := HG.out _ h; omega) (by omega) K' ?_)
    · show Sl _ _ _ _ _ _
      rw [← hkn.out]
      refine hk3.frame (Plain.good _) ⟨HcW5.out.size, fun j h1 h2 => HcW5.out.block j h2 (fun e => ?_)⟩
      have e' : j = T23 := e
      have h3 := HG.out _ h1
      have h4 := HS2.out.bel.size
      rw [e', ← hT23.out] at h3
      omega
    · unfold Hid
      intros
      refine hK' _ _ (Met.intro (hJ' _ _ ?_))
      (repeat apply Exists.intro)
      refine ⟨?_, rfl⟩
      rename_i hr
      rw [hc3.out] at hr
      exact hr
  case rest =>
    obtain ⟨U, hU⟩ : ∃ U, U = wc := ⟨_, rfl⟩
    subst hU
    obtain ⟨hS6, hC6⟩ := hcut
    have HT6 : Hid (U.heap[T18]? = some (.cells (rowA ak).toArray 78 (0, 0))) := hC6.out.at HT5.out (t18_ne HS5.out.x HT5.out (by decide))
    have HA : Hid (After i c1 c2 (tickC c3) s2 n2 asked bi ak.cl p3 y.err) := by
      show After _ _ _ _ _ _ _ _ _ _ _
      rw [← hc3.out]
      exact after_round HO.out HSee.out HSee1.out H12.out Hbi.out (by rw [Hak.out]) Hres.out (by have := Hv50.out; omega)
    have HO3 : Hid (OkC (4 * i + 2) c3) := by
      show OkC _ _
      rw [← hc3.out]
      exact HO.out.answer _ _ _ (by have := Hv50.out; omega)
    go_step
    refine piece_seq (piece_49 n sc b off C A i k w0 l G HF Hn.out HG hlt hbig Hr U c1 c2 c3 ak y p3 asked hs2 hn2 Hm.out Hy.out Hp3.out hS6 HO3 HA HT6 K ?_) (fun _ _ h => h)
    unfold Hid
    intros
    rename_i hr
    (refine HK.out _ _ _ _ _ _ _ _ _ _ _ _ _ _ _ _ _ _ _ _ _ _ _ _ _ _ _ _ _ _ _ _ _ _ _ _ _ _ _ _ _ _ _ _ _ _ _ _ _ _ _ _ _ _ _ _ _ _ _ _ _ _ _ _ _ _ _ _ _ _ _ _ _ _ _ _ _ _ _ _ _ _ _ _ _ _ _ _ _ _ _ _ _ _ _ _ _ _ _ ?_; exact hr)
end Go.Proofs.Ytckclacdmpcpbaa
