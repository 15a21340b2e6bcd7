/-
  ClientOnce: a round from what is asked on.
-/
import Derived.Test.YtckclacdmpcpbaaZk
namespace Go.Proofs.Ytckclacdmpcpbaa
open Go.RowKit Wm Mm Clt
set_option linter.unusedVariables false
set_option linter.unusedSimpArgs false

set_option maxHeartbeats 4000000 in
set_option maxRecDepth 100000 in
theorem piece_25 {v0 v2 v3 v4 v6 v8 v14 v15 v16 v20 v21 v22 v23 v24 v25 v26 v27 v28 v29 v30 v31 v32 v33 v34 v35 v36 v37 v38 v39 v40 v41 v42 v43 v44 v45 v46 v47 v48 v49 v50 v51 v52 v53 v54 v55 v56 v57 v58 v59 v60 v61 v62 v63 v64 v65 v66 v67 v68 v69 v70 v71 v72 v73 v74 v75 v76 v77 v78 v79 v80 v81 v82 v83 v84 v85 v86 v87 v88 v89 v90 v91 v92 v93 v94 v95 v96 v97 v98 v99 v100 v101 v102 v103 v104 v105 v106 v107 v108 v109 v110 v111 v112 v113 v114 v115 v116 v117 v118 v119 v120 v121 v122 v123 v124 v125 v126 v127 v128 v129 v130 v131 v132 v133 v134 v135 v136 v137 v138 v139 v140 v141 v142 v143 v144 v145 v146 v147 v148 v149 v150 v151 v152 v153 v154 v155 v156 v157 v158 v159 v160 v161 v162 v163 v164 v165 v166 v167 v168 v169 v170 v171 v172 v173 v174 v175 v176 v177 v178 v179 v180 v181 v182 v183 v184 v185 v186 v187 v188 v189 v190 v191 v192 v193 v194 v195 v196 v197 v198 v199 v200 v201 v202 v203 v204 v205 v206 v207 v208 v209 v210 v211 v212 v213 v214 v215 v216 v217 v218 v219 v220 v221 v222 v223 v224 v225 v226 v227 v228 v229 v230 v231 v232 v233 v234 v235 v236 v237 v238 v239 v240 v241 v242 v243 v244 v245 v246 v247 v248 v249 v250 v251 v252 v253 v254 v255 v256 v257 v258 v259 v260 v261 v262 v263 v264 v265 v266 v267 v268 : Value} {s nn T17 T18 kc last : Nat} {sa : Option Addr} {bi : Bool} (n sc b off C A i k : Nat) (w0 : World) (l : List AnsP) (G : Nat → Prop)
    (HF : Hid (∀ w', Below w0.heap.size w0 w' → Sl 6 RAns G w' (.slice (some ⟨b, off, none⟩) n sc) l)) (hn : l.length = n) (HG : Hid (∀ g, G g → g < w0.heap.size)) (hlt : i < n) (hbig : n ≤ 16384)
    (Hr : Hid (∀ x ∈ l, i64c x.tok ∧ i64c x.kind ∧ i64c x.ver ∧ x.keys.length ≤ 8796093022000))
    (W : World) (c1 c2 : CliP) (ak : AskC) (asked : CmdC) (ls lN lp : Int) (wt bs : Bool)
    (hs50 : s ≤ 50) (hnn : nn ≤ 4 * i + 1) (hm1 : c1.m = k) (hm : c2.m = k) (hcl1 : c1.last = last)
    (HS : Hid (Cl0 w0 W C A c2 asked)) (HO1 : Hid (OkC (4 * i) c1)) (HO : Hid (OkC (4 * i + 1) c2)) (HSee1 : Hid (Sees c1 s nn asked)) (h12 : (nextC c1).1 = c2) (hbi : (nextC c1).2 = bi) (hb2 : bi = !(wt || !bs)) (hak : askC c1 = ak) (hres : c2.res = false) (htw : nextC c2 = (c2, false))
    (HT17 : Hid (W.heap[T17]? = some (.cells (rowLook ls lN lp wt bs).toArray 72 (0, 0))))
    (HT : Hid (W.heap[T18]? = some (.cells (rowA ak).toArray 78 (0, 0))))
    (K : Act → World → Prop)
    (HK : Hid (∀ (u4 u9 u10 u12 u20 u21 u22 u23 u24 u25 u26 u27 u28 u83 u84 u85 u86 u87 u88 u89 u90 u91 u92 u93 u94 u95 u96 u97 u98 u99 u100 u101 u102 u103 u104 u105 u106 u107 u108 u109 u110 u111 u112 u113 u114 u115 u116 u117 u118 u119 u120 u121 u122 u123 u124 u125 u126 u127 u128 u129 u130 u131 u132 u133 u134 u135 u136 u137 u138 u139 u140 u141 u142 u143 u144 u145 u146 u147 u148 u149 u150 u151 u152 u153 u154 u155 u156 u157 u158 u159 u160 u161 u162 u163 u164 u165 u166 u167 u168 u169 u170 u171 u172 u173 u174 u175 u176 u177 u178 u179 u180 u181 u182 u183 u184 u185 u186 u187 u188 u189 u190 u191 u192 u193 u194 u195 u196 u197 u198 u199 u200 u201 u202 u203 u204 u205 u206 u207 u208 u209 u210 u211 u212 u213 u214 u215 u216 u217 u218 u219 u220 u221 u222 u223 u224 u225 u226 u227 u228 u229 u230 u231 u232 u233 u234 u235 u236 u237 u238 u239 u240 u241 u242 u243 u244 u245 u246 u247 u248 u249 u250 u251 u252 u253 u254 u255 u256 u257 u258 u259 u260 u261 u262 u263 u264 u265 u266 u267 u268 : Value) (wx : World), RoundEnd w0 wx C A i k (u9) (u10) (u12) → K ⟨#[v0, .slice (some ⟨b, off, none⟩) n sc, v2, v3, u4, .slice sa k kc, v6, .pointer (some ⟨C, 0, none⟩), v8, u9, u10, .pointer (some ⟨A, 0, none⟩), u12, .int .i64 (i : Int), v14, v15, v16, .pointer (some ⟨T17, 0, none⟩), .pointer (some ⟨T18, 0, none⟩), .bool bi, u20, u21, u22, u23, u24, u25, u26, u27, u28, v29, v30, v31, v32, v33, v34, v35, v36, v37, v38, v39, v40, v41, v42, v43, v44, v45, v46, v47, v48, v49, v50, v51, v52, v53, v54, v55, v56, v57, v58, v59, v60, v61, v62, v63, v64, v65, v66, v67, v68, v69, v70, v71, v72, v73, v74, v75, v76, v77, v78, v79, v80, v81, v82, u83, u84, u85, u86, u87, u88, u89, u90, u91, u92, u93, u94, u95, u96, u97, u98, u99, u100, u101, u102, u103, u104, u105, u106, u107, u108, u109, u110, u111, u112, u113, u114, u115, u116, u117, u118, u119, u120, u121, u122, u123, u124, u125, u126, u127, u128, u129, u130, u131, u132, u133, u134, u135, u136, u137, u138, u139, u140, u141, u142, u143, u144, u145, u146, u147, u148, u149, u150, u151, u152, u153, u154, u155, u156, u157, u158, u159, u160, u161, u162, u163, u164, u165, u166, u167, u168, u169, u170, u171, u172, u173, u174, u175, u176, u177, u178, u179, u180, u181, u182, u183, u184, u185, u186, u187, u188, u189, u190, u191, u192, u193, u194, u195, u196, u197, u198, u199, u200, u201, u202, u203, u204, u205, u206, u207, u208, u209, u210, u211, u212, u213, u214, u215, u216, u217, u218, u219, u220, u221, u222, u223, u224, u225, u226, u227, u228, u229, u230, u231, u232, u233, u234, u235, u236, u237, u238, u239, u240, u241, u242, u243, u244, u245, u246, u247, u248, u249, u250, u251, u252, u253, u254, u255, u256, u257, u258, u259, u260, u261, u262, u263, u264, u265, u266, u267, u268], []⟩ wx)) :
    Code.wp Try.prog ((Try.f5.body.bind (seqAt 25)).getD .skip) (Exit.then K fun _ _ _ => False) ⟨#[v0, .slice (some ⟨b, off, none⟩) n sc, v2, v3, v4, .slice sa k kc, v6, .pointer (some ⟨C, 0, none⟩), v8, .int .i64 (s : Int), .int .i64 (nn : Int), .pointer (some ⟨A, 0, none⟩), .int .i64 (last : Int), .int .i64 (i : Int), v14, v15, v16, .pointer (some ⟨T17, 0, none⟩), .pointer (some ⟨T18, 0, none⟩), .bool bi, v20, v21, v22, v23, v24, v25, v26, v27, v28, v29, v30, v31, v32, v33, v34, v35, v36, v37, v38, v39, v40, v41, v42, v43, v44, v45, v46, v47, v48, v49, v50, v51, v52, v53, v54, v55, v56, v57, v58, v59, v60, v61, v62, v63, v64, v65, v66, v67, v68, v69, v70, v71, v72, v73, v74, v75, v76, v77, v78, v79, v80, v81, v82, v83, v84, v85, v86, v87, v88, v89, v90, v91, v92, v93, v94, v95, v96, v97, v98, v99, v100, v101, v102, v103, v104, v105, v106, v107, v108, v109, v110, v111, v112, v113, v114, v115, v116, v117, v118, v119, v120, v121, v122, v123, v124, v125, v126, v127, v128, v129, v130, v131, v132, v133, v134, v135, v136, v137, v138, v139, v140, v141, v142, v143, v144, v145, v146, v147, v148, v149, v150, v151, v152, v153, v154, v155, v156, v157, v158, v159, v160, v161, v162, v163, v164, v165, v166, v167, v168, v169, v170, v171, v172, v173, v174, v175, v176, v177, v178, v179, v180, v181, v182, v183, v184, v185, v186, v187, v188, v189, v190, v191, v192, v193, v194, v195, v196, v197, v198, v199, v200, v201, v202, v203, v204, v205, v206, v207, v208, v209, v210, v211, v212, v213, v214, v215, v216, v217, v218, v219, v220, v221, v222, v223, v224, v225, v226, v227, v228, v229, v230, v231, v232, v233, v234, v235, v236, v237, v238, v239, v240, v241, v242, v243, v244, v245, v246, v247, v248, v249, v250, v251, v252, v253, v254, v255, v256, v257, v258, v259, v260, v261, v262, v263, v264, v265, v266, v267, v268], []⟩ W := by
  conv => arg 2; whnf
  have q3 := cell_n HT17.out 3 (v := .bool wt) rfl
  have q4 := cell_n HT17.out 4 (v := .bool bs) rfl
  have Hn := Lib.hid hn
  have Hm := Lib.hid hm
  have Hm1 := Lib.hid hm1
  have Hcl1 := Lib.hid hcl1
  have H12 := Lib.hid h12
  have Hbi := Lib.hid hbi
  have Hb2 := Lib.hid hb2
  have Hak := Lib.hid hak
  have Hres := Lib.hid hres
  have Htw := Lib.hid htw
  clear hn hm hm1 hcl1 h12 hbi hb2 hak hres htw
  go_upto_region 25 with fail
  try dsimp only
  go_cut [91] from 83 to 91 (fun s wx => s = .bool false ∧ wx = W)
  case first =>
    have hb := Hb2.out
    cases wt <;> cases bs
    all_goals
      clear Hb2
      first | (have hb' : bi = false := hb; subst hb') | (have hb' : bi = true := hb; subst hb')
      clear hb
      go_wp2_with fail
      go_meet
      exact ⟨rfl, rfl⟩
  case rest =>
    obtain ⟨rfl, hWU⟩ := hcut
    obtain ⟨U, hU⟩ : ∃ U, U = wc := ⟨_, rfl⟩
    subst hU
    have HS1 : Hid (Cl0 w0 U C A c2 asked) := by rw [hWU]; exact HS
    have HT1 : Hid (U.heap[T18]? = some (.cells (rowA ak).toArray 78 (0, 0))) := by rw [hWU]; exact HT
    clear q3 q4 hWU
    go_upto_if 92 with fail
    obtain ⟨s2, hs2⟩ := hide (if bi = true then seenS c1 s else s)
    obtain ⟨n2, hn2⟩ := hide (if bi = true then seenN c1 nn else nn)
    obtain ⟨asked2, ha2⟩ := hide (if bi = true then seenA c1 asked else asked)
    have HSee2 : Hid (Sees c2 s2 n2 asked2) := by
      show Sees _ _ _ _
      rw [← hs2.out, ← hn2.out, ← ha2.out, ← H12.out]
      exact sees_ask HSee1.out Hbi.out
    have hs250 : s2 ≤ 50 := by rw [← hs2.out]; exact seenS_le HO1.out hs50 bi
    have hn2b : n2 ≤ 4 * i + 1 := by rw [← hn2.out]; exact seenN_le HO1.out hnn (Nat.le_refl _) bi
    go_cut [9, 10, 12] from 93 to 179 (fun s9 s10 s12 wx => s9 = .int .i64 (s2 : Int) ∧ s10 = .int .i64 (n2 : Int) ∧ s12 = .int .i64 (c2.last : Int) ∧ Hid (Cl0 w0 wx C A c2 asked2) ∧ Hid (wx.heap[T18]? = some (.cells (rowA ak).toArray 78 (0, 0))))
    case first =>
      rename_i J' K' hJ' hK'
      cases bi
      · have e1 : s = s2 := by have := hs2.out; simpa using this
        have e2 : nn = n2 := by have := hn2.out; simpa using this
        have e3 : asked = asked2 := by have := ha2.out; simpa using this
        have e4 : c1 = c2 := by rw [← H12.out]; exact (next_no Hbi.out).symm
        have Hl : Hid (last = c2.last) := by show _ = _; rw [← e4, Hcl1.out]
        subst e1
        subst e2
        subst e3
        clear e4
        go_wp2_with fail
        go_meet
        exact ⟨rfl, rfl, by rw [Hl.out], HS1, HT1⟩
      · obtain ⟨y, hy, hl2, hid, hnode, hway⟩ := ask_ways HSee1.out Hbi.out
        rw [Hak.out] at hid hnode hway
        have es : seenS c1 s = s2 := by have := hs2.out; simpa using this
        have en : seenN c1 nn = n2 := by have := hn2.out; simpa using this
        have ea : seenA c1 asked = asked2 := by have := ha2.out; simpa using this
        rw [es, en, ea] at hway
        have hw2 : c2.want = some y := by rw [← H12.out, next_want, hy]
        have Hl : Hid (ak.id = c2.last) := by show _ = _; rw [hid, ← H12.out, hl2]
        have hpos := HO1.out.pos
        rw [Hm1.out] at hpos
        have hlast := HO1.out.last
        rw [Hcl1.out] at hid hlast
        refine piece_any (piece_ask _ _ _ _ _ _ _ _ _ _ _ _ _ w0 U ak y asked c2 s2 n2 asked2 HS1 HT1 hw2 hid (by omega) (by omega) (by omega) (by omega) ?_ K' ?_)
        · rcases hway with ⟨h1, h2, h3, h4, h5, h6⟩ | ⟨h1, h2, h3, h4, h5, h6⟩
          · exact Or.inl ⟨h1, h2, h3, h4.symm, h5.symm, h6.symm⟩
          · exact Or.inr ⟨h1, h2, h3.symm, h4.symm, h5.symm, h6⟩
        · unfold Hid
          intros
          refine hK' _ _ (Met.intro (hJ' _ _ ?_))
          (repeat apply Exists.intro)
          refine ⟨?_, rfl⟩
          rename_i hr
          rw [← Hl.out]
          exact hr
    case rest =>
      obtain ⟨rfl, rfl, rfl, hS7, hT18⟩ := hcut
      obtain ⟨U2, hU2⟩ : ∃ U2, U2 = wc := ⟨_, rfl⟩
      subst hU2
      go_step
      refine piece_seq (piece_42 n sc b off C A i k w0 l G HF Hn.out HG hlt hbig Hr U2 c1 c2 ak asked2 asked s nn hs250 hn2b Hm.out hS7 HO HSee2 HSee1 H12.out Hbi.out Hak.out Hres.out Htw.out hT18 K ?_) (fun _ _ h => h)
      unfold Hid
      intros
      rename_i hr
      (refine HK.out _ _ _ _ _ _ _ _ _ _ _ _ _ _ _ _ _ _ _ _ _ _ _ _ _ _ _ _ _ _ _ _ _ _ _ _ _ _ _ _ _ _ _ _ _ _ _ _ _ _ _ _ _ _ _ _ _ _ _ _ _ _ _ _ _ _ _ _ _ _ _ _ _ _ _ _ _ _ _ _ _ _ _ _ _ _ _ _ _ _ _ _ _ _ _ _ _ _ _ _ _ _ _ _ _ _ _ _ _ _ _ _ _ _ _ _ _ _ _ _ _ _ _ _ _ _ _ _ _ _ _ _ _ _ _ _ _ _ _ _ _ _ _ _ _ _ _ _ _ _ _ _ _ _ _ _ _ _ _ _ _ _ _ _ _ _ _ _ _ _ _ _ _ _ _ _ _ _ _ _ _ _ _ _ _ _ _ _ _ _ _ _ _ _ _ _ _ _ _ _ ?_; exact hr)
end Go.Proofs.Ytckclacdmpcpbaa
