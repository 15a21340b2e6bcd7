/-
  ClientOnce: the end of a round: time goes on, what is done is taken.
-/
import Derived.Test.YtckclacdmpcpbaaZi
import Derived.Deep.CutRange
namespace Go.Proofs.Ytckclacdmpcpbaa
open Go.RowKit Wm Mm Clt
set_option linter.unusedVariables false
set_option linter.unusedSimpArgs false

/-- how a round ends -/
def RoundEnd (w0 wx : World) (C A i k : Nat) (v9 v10 v12 : Value) : Prop :=
  ∃ (c' : CliP) (s' n' : Nat) (asked' : CmdC), v9 = .int .i64 (s' : Int) ∧ v10 = .int .i64 (n' : Int) ∧ v12 = .int .i64 (c'.last : Int) ∧ Hid (Cl0 w0 wx C A c' asked') ∧ Hid (OkC (4 * (i + 1)) c') ∧ Hid (Sees c' s' n' asked') ∧ Hid (c'.res = false) ∧ c'.m = k ∧ n' ≤ 4 * (i + 1) + 1 ∧ s' ≤ 50
theorem t18_ne {w : World} {C T : Nat} {c : CliP} {cs : Array Value} {t : TypeId} (h : CliX w C c) (hT : w.heap[T]? = some (.cells cs t (0, 0))) (ht : t ≠ 194) : T ≠ C := by
  obtain ⟨g, cap, wv, rv, hB, _⟩ := h.ex
  exact notC hB hT ht
set_option maxHeartbeats 4000000 in
set_option maxRecDepth 100000 in
theorem piece_49 {v0 v2 v3 v4 v5 v6 v8 v11 v14 v15 v16 v17 v20 v21 v22 v23 v24 v25 v26 v27 v28 v29 v30 v31 v32 v33 v34 v35 v36 v37 v38 v39 v40 v41 v42 v43 v44 v45 v46 v47 v48 v49 v50 v51 v52 v53 v54 v55 v56 v57 v58 v59 v60 v61 v62 v63 v64 v65 v66 v67 v68 v69 v70 v71 v72 v73 v74 v75 v76 v77 v78 v79 v80 v81 v82 v83 v84 v85 v86 v87 v88 v89 v90 v91 v92 v93 v94 v95 v96 v97 v98 v99 v100 v101 v102 v103 v104 v105 v106 v107 v108 v109 v110 v111 v112 v113 v114 v115 v116 v117 v118 v119 v120 v121 v122 v123 v124 v125 v126 v127 v128 v129 v130 v131 v132 v133 v134 v135 v136 v137 v138 v139 v140 v141 v142 v143 v144 v145 v146 v147 v148 v149 v150 v151 v152 v153 v154 v155 v156 v157 v158 v159 v160 v161 v162 v163 v164 v165 v166 v167 v168 v169 v170 v171 v172 v173 v174 v175 v176 v177 v178 v179 v180 v181 v182 v183 v184 v185 v186 v187 v188 v189 v190 v191 v192 v193 v194 v195 v196 v197 v198 v199 v200 v201 v202 v203 v204 v205 v206 v207 v208 v209 v210 v211 v212 v213 v214 v215 v216 v217 v218 v219 v220 v221 v222 v223 v224 v225 v226 v227 v228 v229 v230 v231 v232 v233 v234 v235 v236 v237 v238 v239 v240 v241 v242 v243 v244 v245 v246 v247 v248 v249 v250 v251 v252 v253 v254 v255 v256 v257 v258 v259 v260 v261 v262 v263 v264 v265 v266 v267 v268 : Value} {s2 n2 T18 : Nat} {bi : Bool} (n sc b off C A i k : Nat) (w0 : World) (l : List AnsP) (G : Nat → Prop)
    (HF : Hid (∀ w', Below w0.heap.size w0 w' → Sl 6 RAns G w' (.slice (some ⟨b, off, none⟩) n sc) l)) (hn : l.length = n) (HG : Hid (∀ g, G g → g < w0.heap.size)) (hlt : i < n) (hbig : n ≤ 16384)
    (Hr : Hid (∀ x ∈ l, i64c x.tok ∧ i64c x.kind ∧ i64c x.ver ∧ x.keys.length ≤ 8796093022000))
    (W : World) (c1 c2 c3 : CliP) (ak : AskC) (y : AnsP) (p3 : Nat) (asked : CmdC)
    (hs2 : s2 ≤ 50) (hn2 : n2 ≤ 4 * i + 1) (hm : c2.m = k) (hy : l[i]? = some y) (hp : y.tok % 3 = (p3 : Int))
    (HS : Hid (Cl0 w0 W C A c3 asked)) (HO : Hid (OkC (4 * i + 2) c3)) (HAft : Hid (After i c1 c2 (tickC c3) s2 n2 asked bi ak.cl p3 y.err))
    (HT : Hid (W.heap[T18]? = some (.cells (rowA ak).toArray 78 (0, 0))))
    (K : Act → World → Prop)
    (HK : Hid (∀ (u4 u24 u25 u26 u27 u28 u217 u218 u219 u220 u221 u222 u223 u224 u225 u226 u227 u228 u229 u230 u231 u232 u233 u234 u235 u236 u237 u238 u239 u240 u241 u242 u243 u244 u245 u246 u247 u248 u249 u250 u251 u252 u253 u254 u255 u256 u257 u258 u259 u260 u261 u262 u263 u264 u265 u266 u267 u268 : Value) (wx : World), RoundEnd w0 wx C A i k (.int .i64 (s2 : Int)) (.int .i64 (n2 : Int)) (.int .i64 (c2.last : Int)) → K ⟨#[v0, .slice (some ⟨b, off, none⟩) n sc, v2, v3, u4, v5, v6, .pointer (some ⟨C, 0, none⟩), v8, .int .i64 (s2 : Int), .int .i64 (n2 : Int), v11, .int .i64 (c2.last : Int), .int .i64 (i : Int), v14, v15, v16, v17, .pointer (some ⟨T18, 0, none⟩), .bool bi, v20, v21, v22, v23, u24, u25, u26, u27, u28, v29, v30, v31, v32, v33, v34, v35, v36, v37, v38, v39, v40, v41, v42, v43, v44, v45, v46, v47, v48, v49, v50, v51, v52, v53, v54, v55, v56, v57, v58, v59, v60, v61, v62, v63, v64, v65, v66, v67, v68, v69, v70, v71, v72, v73, v74, v75, v76, v77, v78, v79, v80, v81, v82, v83, v84, v85, v86, v87, v88, v89, v90, v91, v92, v93, v94, v95, v96, v97, v98, v99, v100, v101, v102, v103, v104, v105, v106, v107, v108, v109, v110, v111, v112, v113, v114, v115, v116, v117, v118, v119, v120, v121, v122, v123, v124, v125, v126, v127, v128, v129, v130, v131, v132, v133, v134, v135, v136, v137, v138, v139, v140, v141, v142, v143, v144, v145, v146, v147, v148, v149, v150, v151, v152, v153, v154, v155, v156, v157, v158, v159, v160, v161, v162, v163, v164, v165, v166, v167, v168, v169, v170, v171, v172, v173, v174, v175, v176, v177, v178, v179, v180, v181, v182, v183, v184, v185, v186, v187, v188, v189, v190, v191, v192, v193, v194, v195, v196, v197, v198, v199, v200, v201, v202, v203, v204, v205, v206, v207, v208, v209, v210, v211, v212, v213, v214, v215, v216, u217, u218, u219, u220, u221, u222, u223, u224, u225, u226, u227, u228, u229, u230, u231, u232, u233, u234, u235, u236, u237, u238, u239, u240, u241, u242, u243, u244, u245, u246, u247, u248, u249, u250, u251, u252, u253, u254, u255, u256, u257, u258, u259, u260, u261, u262, u263, u264, u265, u266, u267, u268], []⟩ wx)) :
    Code.wp Try.prog ((Try.f5.body.bind (seqAt 49)).getD .skip) (Exit.then K fun _ _ _ => False) ⟨#[v0, .slice (some ⟨b, off, none⟩) n sc, v2, v3, v4, v5, v6, .pointer (some ⟨C, 0, none⟩), v8, .int .i64 (s2 : Int), .int .i64 (n2 : Int), v11, .int .i64 (c2.last : Int), .int .i64 (i : Int), v14, v15, v16, v17, .pointer (some ⟨T18, 0, none⟩), .bool bi, v20, v21, v22, v23, v24, v25, v26, v27, v28, v29, v30, v31, v32, v33, v34, v35, v36, v37, v38, v39, v40, v41, v42, v43, v44, v45, v46, v47, v48, v49, v50, v51, v52, v53, v54, v55, v56, v57, v58, v59, v60, v61, v62, v63, v64, v65, v66, v67, v68, v69, v70, v71, v72, v73, v74, v75, v76, v77, v78, v79, v80, v81, v82, v83, v84, v85, v86, v87, v88, v89, v90, v91, v92, v93, v94, v95, v96, v97, v98, v99, v100, v101, v102, v103, v104, v105, v106, v107, v108, v109, v110, v111, v112, v113, v114, v115, v116, v117, v118, v119, v120, v121, v122, v123, v124, v125, v126, v127, v128, v129, v130, v131, v132, v133, v134, v135, v136, v137, v138, v139, v140, v141, v142, v143, v144, v145, v146, v147, v148, v149, v150, v151, v152, v153, v154, v155, v156, v157, v158, v159, v160, v161, v162, v163, v164, v165, v166, v167, v168, v169, v170, v171, v172, v173, v174, v175, v176, v177, v178, v179, v180, v181, v182, v183, v184, v185, v186, v187, v188, v189, v190, v191, v192, v193, v194, v195, v196, v197, v198, v199, v200, v201, v202, v203, v204, v205, v206, v207, v208, v209, v210, v211, v212, v213, v214, v215, v216, v217, v218, v219, v220, v221, v222, v223, v224, v225, v226, v227, v228, v229, v230, v231, v232, v233, v234, v235, v236, v237, v238, v239, v240, v241, v242, v243, v244, v245, v246, v247, v248, v249, v250, v251, v252, v253, v254, v255, v256, v257, v258, v259, v260, v261, v262, v263, v264, v265, v266, v267, v268], []⟩ W := by
  conv => arg 2; whnf
  obtain ⟨c4, hc4⟩ := hide (tickC c3)
  obtain ⟨dn, hdn⟩ := hide c4.res
  have KT := Lib.hid (tick_law c3 _ W C HS.out.x HO.out (by omega))
  rw [hc4.out] at KT HAft
  have Hp := Lib.hid hp
  have Hy := Lib.hid hy
  have Hn := Lib.hid hn
  have Hm := Lib.hid hm
  clear hp hy hn hm
  go_wp2_with fail
  refine KT.out.mono ?_
  rintro e w1 ⟨rfl, hx1, hc1⟩
  have HS1 := Lib.hid (HS.out.call hx1 hc1)
  have HT1 : Hid (w1.heap[T18]? = some (.cells (rowA ak).toArray 78 (0, 0))) := hc1.at HT.out (t18_ne HS.out.x HT.out (by decide))
  have KD := Lib.hid (done_law c4 w1 C HS1.out.x)
  rw [hdn.out] at KD
  clear KT hx1 hc1
  go_wp2_with fail
  refine KD.out.mono ?_
  rintro e w2 ⟨dk, ds, dv, da, dl, dc, rfl, hdk, hx2, hc2⟩
  have HS2 := Lib.hid (HS1.out.call hx2 hc2)
  have HT2 : Hid (w2.heap[T18]? = some (.cells (rowA ak).toArray 78 (0, 0))) := hc2.at HT1.out (t18_ne HS1.out.x HT1.out (by decide))
  obtain ⟨W3, hW3⟩ := hide (w2.alloc (.cells #[.int .i64 dk, str ds, .int .i64 dv, .slice da dl dc] 82))
  have HbW3 : Hid (Below w2.heap.size w2 W3) := by show Below _ _ _; rw [← hW3.out]; exact (Below.refl _ _).alloc (Nat.le_refl _) _
  have HS3 := Lib.hid (HS2.out.new HbW3.out)
  have HT3 : Hid (W3.heap[T18]? = some (.cells (rowA ak).toArray 78 (0, 0))) := (HbW3.out.block T18 (lt_of_block HT2.out)).trans HT2.out
  clear KD hdk hx2 hc2
  go_upto_region 51 with fail
  rw [hW3.out]
  go_cut [26] from 217 to 268 (fun s26 wx => (∃ fr : Bool, s26 = .bool fr ∧ Hid (fr = true → dn = true)) ∧ wx = W3)
  case first =>
    rename_i J' K' hJ' hK'
    obtain ⟨b', off', us, e1, hGb, _, ⟨kv, hus, _⟩, hcs⟩ := (HF.out _ HS3.out.bel).at (k := i) (by rw [Hn.out]; exact hlt)
    subst hus
    injection e1 with e1
    injection e1 with e1 e2 _
    subst e1
    subst e2
    have g0 := hcs 0 _ rfl
    have g1 := hcs 1 _ rfl
    obtain ⟨hil, hyl⟩ := List.getElem?_eq_some_iff.1 Hy.out
    rw [hyl] at g0 g1
    have hi64 := (Hr.out y (List.mem_of_getElem? Hy.out)).1
    refine piece_any (piece_fresh n sc b off i T18 ak.cl p3 W3 y.tok y.err bi (by omega) g0 g1 (cell_n HT3.out 2 rfl) hi64 Hp.out K' ?_)
    unfold Hid
    intros
    refine hK' _ _ (Met.intro (hJ' _ _ ?_))
    (repeat apply Exists.intro)
    refine ⟨?_, rfl⟩
    rename_i hr
    obtain ⟨⟨fr, h1, h2⟩, h3⟩ := hr
    exact ⟨⟨fr, h1, fun h => by obtain ⟨q1, q2, q3, q4⟩ := h2 h; rw [← hdn.out]; exact HAft.out.fresh q1 q2 q3 q4⟩, h3⟩
  case rest =>
    obtain ⟨U, hU⟩ : ∃ U, U = wc := ⟨_, rfl⟩
    subst hU
    obtain ⟨⟨fr, rfl, hfr⟩, hWU⟩ := hcut
    have HS4 : Hid (Cl0 w0 U C A (doneC c4) asked) := by rw [hWU]; exact HS3
    clear hWU
    go_upto_region 52 with fail
    go_cut [252] from 217 to 268 (fun s wx => s = .bool false ∧ wx = U)
    case first =>
      cases fr
      · go_wp2_with fail
        go_meet
        exact ⟨rfl, rfl⟩
      · have hd := hfr.out rfl
        have Hd := Lib.hid hd
        subst hd
        go_wp2_with fail
        go_meet
        exact ⟨rfl, rfl⟩
    case rest =>
      obtain ⟨rfl, hWU⟩ := hcut
      obtain ⟨U2, hU2⟩ : ∃ U2, U2 = wc := ⟨_, rfl⟩
      subst hU2
      have HS5 : Hid (Cl0 w0 U2 C A (doneC c4) asked) := by rw [hWU]; exact HS4
      clear hWU
      have KD2 := Lib.hid (done_law (doneC c4) U2 C HS5.out.x)
      go_wp2_with fail
      refine KD2.out.mono ?_
      rintro e w5 ⟨dk, ds, dv, da, dl, dc, rfl, hdk, hx2, hc2⟩
      have hdk0 : dk = 0 := hdk rfl
      subst hdk0
      have HS6 := Lib.hid (HS5.out.call hx2 hc2)
      obtain ⟨W7, hW7⟩ := hide (w5.alloc (.cells #[.int .i64 0, str ds, .int .i64 dv, .slice da dl dc] 82))
      have HbW7 : Hid (Below w5.heap.size w5 W7) := by show Below _ _ _; rw [← hW7.out]; exact (Below.refl _ _).alloc (Nat.le_refl _) _
      have HS7 := Lib.hid (HS6.out.new HbW7.out)
      have HT27 : Hid (W7.heap[w5.heap.size]? = some (.cells #[.int .i64 0, str ds, .int .i64 dv, .slice da dl dc] 82 (0, 0))) := by show _ = _; rw [← hW7.out]; exact hp_at _ _ rfl
      obtain ⟨T27, hT27⟩ := hide w5.heap.size
      rw [hT27.out] at HT27
      clear KD2 hdk hx2 hc2
      go_upto_region 55 with fail
      rw [hW7.out]
      try rw [hT27.out]
      have q0 := cell_n HT27.out 0 (v := .int .i64 0) rfl
      go_cut [268] from 217 to 268 (fun s wx => s = .bool false ∧ Hid (Cl0 w0 wx C A (doneC (doneC c4)) asked))
      case first =>
        rcases Bool.eq_false_or_eq_true dn with hd | hd
        · have hw : (doneC (doneC c4)).want.isSome = false := by
            have := HAft.out.idle (by rw [hdn.out, hd])
            show c4.want.isSome = false
            rw [this]; rfl
          have KL := Lib.hid (look_law (doneC (doneC c4)) _ W7 C HS7.out.x HAft.out.ok)
          rw [hw] at KL
          subst hd
          clear hw
          have kf := lookField
          go_wp2_with fail
          refine KL.out.mono ?_
          rintro e w8 ⟨rfl, hb8⟩
          have HS8 := Lib.hid (HS7.out.new hb8)
          clear hb8
          go_wp2_with fail
          go_meet
          exact ⟨rfl, HS8⟩
        · subst hd
          go_wp2_with fail
          go_meet
          exact ⟨rfl, HS7⟩
      case rest =>
        obtain ⟨rfl, hS9⟩ := hcut
        obtain ⟨U9, hU9⟩ : ∃ U9, U9 = wc := ⟨_, rfl⟩
        subst hU9
        have HR : Hid (RoundEnd w0 U9 C A i k (.int .i64 (s2 : Int)) (.int .i64 (n2 : Int)) (.int .i64 (c2.last : Int))) :=
          ⟨doneC (doneC c4), s2, n2, asked, rfl, rfl, by rw [HAft.out.last], hS9, HAft.out.ok, HAft.out.sees, rfl, by rw [HAft.out.m, Hm.out], by omega, hs2⟩
        clear q0
        go_wp2_with fail
        (refine HK.out _ _ _ _ _ _ _ _ _ _ _ _ _ _ _ _ _ _ _ _ _ _ _ _ _ _ _ _ _ _ _ _ _ _ _ _ _ _ _ _ _ _ _ _ _ _ _ _ _ _ _ _ _ _ _ _ _ _ _ ?_; exact HR.out)
end Go.Proofs.Ytckclacdmpcpbaa
