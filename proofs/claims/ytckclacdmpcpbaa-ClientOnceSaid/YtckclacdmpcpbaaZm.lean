/-
  ClientOnce: a whole round.
-/
import Derived.Test.YtckclacdmpcpbaaZl
namespace Go.Proofs.Ytckclacdmpcpbaa
open Go.RowKit Wm Mm Clt
set_option linter.unusedVariables false
set_option linter.unusedSimpArgs false

set_option maxHeartbeats 4000000 in
set_option maxRecDepth 100000 in
theorem piece_round {v0 v2 v3 v4 v6 v8 v14 v15 v16 v17 v18 v19 v20 v21 v22 v23 v24 v25 v26 v27 v28 v29 v30 v31 v32 v33 v34 v35 v36 v37 v38 v39 v40 v41 v42 v43 v44 v45 v46 v47 v48 v49 v50 v51 v52 v53 v54 v55 v56 v57 v58 v59 v60 v61 v62 v63 v64 v65 v66 v67 v68 v69 v70 v71 v72 v73 v74 v75 v76 v77 v78 v79 v80 v81 v82 v83 v84 v85 v86 v87 v88 v89 v90 v91 v92 v93 v94 v95 v96 v97 v98 v99 v100 v101 v102 v103 v104 v105 v106 v107 v108 v109 v110 v111 v112 v113 v114 v115 v116 v117 v118 v119 v120 v121 v122 v123 v124 v125 v126 v127 v128 v129 v130 v131 v132 v133 v134 v135 v136 v137 v138 v139 v140 v141 v142 v143 v144 v145 v146 v147 v148 v149 v150 v151 v152 v153 v154 v155 v156 v157 v158 v159 v160 v161 v162 v163 v164 v165 v166 v167 v168 v169 v170 v171 v172 v173 v174 v175 v176 v177 v178 v179 v180 v181 v182 v183 v184 v185 v186 v187 v188 v189 v190 v191 v192 v193 v194 v195 v196 v197 v198 v199 v200 v201 v202 v203 v204 v205 v206 v207 v208 v209 v210 v211 v212 v213 v214 v215 v216 v217 v218 v219 v220 v221 v222 v223 v224 v225 v226 v227 v228 v229 v230 v231 v232 v233 v234 v235 v236 v237 v238 v239 v240 v241 v242 v243 v244 v245 v246 v247 v248 v249 v250 v251 v252 v253 v254 v255 v256 v257 v258 v259 v260 v261 v262 v263 v264 v265 v266 v267 v268 : Value} {s nn kc : Nat} {sa : Option Addr} (n sc b off C A i k : Nat) (w0 : World) (l : List AnsP) (G : Nat → Prop)
    (HF : Hid (∀ w', Below w0.heap.size w0 w' → Sl 6 RAns G w' (.slice (some ⟨b, off, none⟩) n sc) l)) (hn : l.length = n) (HG : Hid (∀ g, G g → g < w0.heap.size)) (hlt : i < n) (hbig : n ≤ 16384)
    (Hr : Hid (∀ x ∈ l, i64c x.tok ∧ i64c x.kind ∧ i64c x.ver ∧ x.keys.length ≤ 8796093022000))
    (W0 : World) (cl : CliP) (asked : CmdC)
    (hs50 : s ≤ 50) (hnn : nn ≤ 4 * i + 1) (hm : cl.m = k)
    (HS : Hid (Cl0 w0 W0 C A cl asked)) (hO : Hid (OkC (4 * i) cl)) (HSee : Hid (Sees cl s nn asked)) (hres : cl.res = false)
    (K : Act → World → Prop)
    (HK : Hid (∀ (u4 u9 u10 u12 u14 u15 u16 u17 u18 u19 u20 u21 u22 u23 u24 u25 u26 u27 u28 u61 u62 u63 u64 u65 u66 u67 u68 u69 u70 u71 u72 u73 u74 u75 u76 u77 u78 u79 u80 u81 u82 u83 u84 u85 u86 u87 u88 u89 u90 u91 u92 u93 u94 u95 u96 u97 u98 u99 u100 u101 u102 u103 u104 u105 u106 u107 u108 u109 u110 u111 u112 u113 u114 u115 u116 u117 u118 u119 u120 u121 u122 u123 u124 u125 u126 u127 u128 u129 u130 u131 u132 u133 u134 u135 u136 u137 u138 u139 u140 u141 u142 u143 u144 u145 u146 u147 u148 u149 u150 u151 u152 u153 u154 u155 u156 u157 u158 u159 u160 u161 u162 u163 u164 u165 u166 u167 u168 u169 u170 u171 u172 u173 u174 u175 u176 u177 u178 u179 u180 u181 u182 u183 u184 u185 u186 u187 u188 u189 u190 u191 u192 u193 u194 u195 u196 u197 u198 u199 u200 u201 u202 u203 u204 u205 u206 u207 u208 u209 u210 u211 u212 u213 u214 u215 u216 u217 u218 u219 u220 u221 u222 u223 u224 u225 u226 u227 u228 u229 u230 u231 u232 u233 u234 u235 u236 u237 u238 u239 u240 u241 u242 u243 u244 u245 u246 u247 u248 u249 u250 u251 u252 u253 u254 u255 u256 u257 u258 u259 u260 u261 u262 u263 u264 u265 u266 u267 u268 : Value) (wx : World), RoundEnd w0 wx C A i k (u9) (u10) (u12) → K ⟨#[v0, .slice (some ⟨b, off, none⟩) n sc, v2, v3, u4, .slice sa k kc, v6, .pointer (some ⟨C, 0, none⟩), v8, u9, u10, .pointer (some ⟨A, 0, none⟩), u12, .int .i64 (i : Int), u14, u15, u16, u17, u18, u19, u20, u21, u22, u23, u24, u25, u26, u27, u28, v29, v30, v31, v32, v33, v34, v35, v36, v37, v38, v39, v40, v41, v42, v43, v44, v45, v46, v47, v48, v49, v50, v51, v52, v53, v54, v55, v56, v57, v58, v59, v60, u61, u62, u63, u64, u65, u66, u67, u68, u69, u70, u71, u72, u73, u74, u75, u76, u77, u78, u79, u80, u81, u82, u83, u84, u85, u86, u87, u88, u89, u90, u91, u92, u93, u94, u95, u96, u97, u98, u99, u100, u101, u102, u103, u104, u105, u106, u107, u108, u109, u110, u111, u112, u113, u114, u115, u116, u117, u118, u119, u120, u121, u122, u123, u124, u125, u126, u127, u128, u129, u130, u131, u132, u133, u134, u135, u136, u137, u138, u139, u140, u141, u142, u143, u144, u145, u146, u147, u148, u149, u150, u151, u152, u153, u154, u155, u156, u157, u158, u159, u160, u161, u162, u163, u164, u165, u166, u167, u168, u169, u170, u171, u172, u173, u174, u175, u176, u177, u178, u179, u180, u181, u182, u183, u184, u185, u186, u187, u188, u189, u190, u191, u192, u193, u194, u195, u196, u197, u198, u199, u200, u201, u202, u203, u204, u205, u206, u207, u208, u209, u210, u211, u212, u213, u214, u215, u216, u217, u218, u219, u220, u221, u222, u223, u224, u225, u226, u227, u228, u229, u230, u231, u232, u233, u234, u235, u236, u237, u238, u239, u240, u241, u242, u243, u244, u245, u246, u247, u248, u249, u250, u251, u252, u253, u254, u255, u256, u257, u258, u259, u260, u261, u262, u263, u264, u265, u266, u267, u268], []⟩ wx)) :
    Code.wp Try.prog ((Try.f5.body.bind (blockAt 3)).getD .skip) (Exit.then K fun _ _ _ => False) ⟨#[v0, .slice (some ⟨b, off, none⟩) n sc, v2, v3, v4, .slice sa k kc, v6, .pointer (some ⟨C, 0, none⟩), v8, .int .i64 (s : Int), .int .i64 (nn : Int), .pointer (some ⟨A, 0, none⟩), .int .i64 (cl.last : Int), .int .i64 (i : Int), v14, v15, v16, v17, v18, v19, v20, v21, v22, v23, v24, v25, v26, v27, v28, v29, v30, v31, v32, v33, v34, v35, v36, v37, v38, v39, v40, v41, v42, v43, v44, v45, v46, v47, v48, v49, v50, v51, v52, v53, v54, v55, v56, v57, v58, v59, v60, v61, v62, v63, v64, v65, v66, v67, v68, v69, v70, v71, v72, v73, v74, v75, v76, v77, v78, v79, v80, v81, v82, v83, v84, v85, v86, v87, v88, v89, v90, v91, v92, v93, v94, v95, v96, v97, v98, v99, v100, v101, v102, v103, v104, v105, v106, v107, v108, v109, v110, v111, v112, v113, v114, v115, v116, v117, v118, v119, v120, v121, v122, v123, v124, v125, v126, v127, v128, v129, v130, v131, v132, v133, v134, v135, v136, v137, v138, v139, v140, v141, v142, v143, v144, v145, v146, v147, v148, v149, v150, v151, v152, v153, v154, v155, v156, v157, v158, v159, v160, v161, v162, v163, v164, v165, v166, v167, v168, v169, v170, v171, v172, v173, v174, v175, v176, v177, v178, v179, v180, v181, v182, v183, v184, v185, v186, v187, v188, v189, v190, v191, v192, v193, v194, v195, v196, v197, v198, v199, v200, v201, v202, v203, v204, v205, v206, v207, v208, v209, v210, v211, v212, v213, v214, v215, v216, v217, v218, v219, v220, v221, v222, v223, v224, v225, v226, v227, v228, v229, v230, v231, v232, v233, v234, v235, v236, v237, v238, v239, v240, v241, v242, v243, v244, v245, v246, v247, v248, v249, v250, v251, v252, v253, v254, v255, v256, v257, v258, v259, v260, v261, v262, v263, v264, v265, v266, v267, v268], []⟩ W0 := by
  conv => arg 2; whnf
  have Hn := Lib.hid hn
  have Hm := Lib.hid hm
  have Hres := Lib.hid hres
  clear hn hm hres
  have kc := toStr1c
  go_upto_region 19 with fail
  obtain ⟨x, hx⟩ := hide (⟨1, [107], [UInt8.ofNat (i % 256)], 0⟩ : CmdC)
  obtain ⟨W, hW⟩ := hide ((W0.alloc (.cells #[.int .u8 ((i : Int) % 256)] 5)).alloc (.cells #[.int .i64 1, .string ⟨#[107]⟩, .string ⟨#[UInt8.ofNat (i % 256)]⟩, .int .i64 0] 69))
  have HbW : Hid (Below W0.heap.size W0 W) := by show Below _ _ _; rw [← hW.out]; exact ((Below.refl _ _).alloc (Nat.le_refl _) _).alloc (by simp) _
  have HxW : Hid (W.heap[W0.heap.size + 1]? = some (blkCmd x)) := by show _ = _; rw [← hW.out, ← hx.out]; exact hp_at _ _ (by simp)
  have hxc : isCommand x.kind x.key x.val x.iff = true := by rw [← hx.out]; rfl
  obtain ⟨X, hX⟩ := hide (W0.heap.size + 1)
  rw [hX.out] at HxW
  rw [hW.out, hX.out]
  have HS1 := Lib.hid (HS.out.new HbW.out)
  have KL := Lib.hid (look_law cl _ W C HS1.out.x hO.out)
  obtain ⟨bw, hbw⟩ := hide cl.want.isSome
  rw [hbw.out] at KL
  clear kc
  have kf := lookField
  go_wp2_with fail
  refine KL.out.mono ?_
  rintro e w1 ⟨rfl, hb1⟩
  have HS2 := Lib.hid (HS1.out.new hb1)
  have Hx1 : Hid (w1.heap[X]? = some (blkCmd x)) := (hb1.block X (lt_of_block HxW.out)).trans HxW.out
  have KW := Lib.hid (want_law cl _ x w1 C HS2.out.x hO.out (by omega) hxc)
  have x0 := cell_n Hx1.out 0 (v := .int .i64 x.kind) rfl
  have x1 := cell_n Hx1.out 1 (v := str x.key) rfl
  have x2 := cell_n Hx1.out 2 (v := str x.val) rfl
  have x3 := cell_n Hx1.out 3 (v := .int .i64 x.iff) rfl
  have hfq : ((wantC cl x).2 == 0) = !bw := by rw [want_is _ _ Hres.out, hbw.out]; cases bw <;> rfl
  have Hc1O : Hid (OkC (4 * i) (wantC cl x).1) := hO.out.want x
  have Hc1S : Hid (Sees (wantC cl x).1 s nn asked) := sees_want HSee.out x
  have Hc1R : Hid ((wantC cl x).1.res = false) := by show _ = _; rw [want_res]; exact Hres.out
  have Hc1m : Hid ((wantC cl x).1.m = k) := by show _ = _; rw [← Hm.out]; unfold wantC; split <;> rfl
  have Hc1l : Hid ((wantC cl x).1.last = cl.last) := want_last _ _
  obtain ⟨fI, hfI⟩ := hide (wantC cl x).2
  obtain ⟨c1, hc1⟩ := hide (wantC cl x).1
  rw [hfI.out] at KW hfq
  rw [hc1.out] at KW Hc1O Hc1S Hc1R Hc1m Hc1l
  clear hb1 hxc KL
  dsimp only
  go_wp2_with fail
  refine KW.out.mono ?_
  rintro e w2 ⟨rfl, hx2, hc2⟩
  have HS3 := Lib.hid (HS2.out.call hx2 hc2)
  have KL2 := Lib.hid (look_law c1 _ w2 C HS3.out.x Hc1O.out)
  obtain ⟨bs, hbs⟩ := hide c1.want.isSome
  obtain ⟨wt, hwt⟩ := hide c1.waits
  rw [hbs.out, hwt.out] at KL2
  clear hx2 hc2 KW x0 x1 x2 x3
  dsimp only
  go_wp2_with fail
  refine KL2.out.mono ?_
  rintro e w3 ⟨rfl, hb3⟩
  obtain ⟨W4, hW4⟩ := hide (w3.alloc (.cells (rowLook c1.session c1.number ((c1.pos : Int) + 1) wt bs).toArray 72))
  have HbW4 : Hid (Below w3.heap.size w3 W4) := by show Below _ _ _; rw [← hW4.out]; exact (Below.refl _ _).alloc (Nat.le_refl _) _
  have HT17 : Hid (W4.heap[w3.heap.size]? = some (.cells (rowLook c1.session c1.number ((c1.pos : Int) + 1) wt bs).toArray 72 (0, 0))) := by show _ = _; rw [← hW4.out]; exact hp_at _ _ rfl
  have HS4 := Lib.hid ((HS3.out.new hb3).new HbW4.out)
  obtain ⟨T17, hT17⟩ := hide w3.heap.size
  rw [hT17.out] at HT17
  dsimp only
  go_upto_region 24 with fail
  have hW4' : w3.alloc (.cells #[.int .i64 (c1.session : Int), .int .i64 (c1.number : Int), .int .i64 ((c1.pos : Int) + 1), .bool wt, .bool bs] 72) = W4 := hW4.out
  rw [hW4']
  try rw [hT17.out]
  have KN := Lib.hid (ask_law c1 _ W4 C HS4.out.x Hc1O.out (by omega))
  obtain ⟨bi, hbi⟩ := hide (nextC c1).2
  obtain ⟨ak, hak⟩ := hide (askC c1)
  have hbi2 : bi = !(wt || !bs) := by rw [← hbi.out, next_is, hwt.out, hbs.out]
  have Hc2O : Hid (OkC (4 * i + 1) (nextC c1).1) := Hc1O.out.next
  have Hc2R : Hid ((nextC c1).1.res = false) := by show _ = _; rw [next_res]; exact Hc1R.out
  have Hc2m : Hid ((nextC c1).1.m = k) := by show _ = _; rw [← Hc1m.out]; unfold nextC; split <;> rfl
  have Htw : Hid (nextC (nextC c1).1 = ((nextC c1).1, false)) := next_twice c1
  obtain ⟨c2, hc2⟩ := hide (nextC c1).1
  rw [hbi.out, hak.out, hc2.out] at KN
  rw [hc2.out] at Hc2O Hc2R Hc2m Htw
  have Hbi2 := Lib.hid hbi2
  clear hW4' hb3 KL2 hbi2
  go_cut [18, 19] from 78 to 82 (fun s18 s19 wx => ∃ T18 : Nat, s18 = .pointer (some ⟨T18, 0, none⟩) ∧ s19 = .bool bi ∧ Hid (Cl0 w0 wx C A c2 asked) ∧ Hid (wx.heap[T17]? = some (.cells (rowLook c1.session c1.number ((c1.pos : Int) + 1) wt bs).toArray 72 (0, 0))) ∧ Hid (wx.heap[T18]? = some (.cells (rowA ak).toArray 78 (0, 0))))
  case first =>
    go_wp2_with fail
    refine KN.out.mono ?_
    rintro e w5 ⟨rfl, hx5, hc5⟩
    have HW6 : Hid (∀ W6, w5.alloc (.cells (rowA ak).toArray 78) = W6 → ∃ T18 : Nat, T18 = w5.heap.size ∧ Hid (Cl0 w0 W6 C A c2 asked) ∧ Hid (W6.heap[T17]? = some (.cells (rowLook c1.session c1.number ((c1.pos : Int) + 1) wt bs).toArray 72 (0, 0))) ∧ Hid (W6.heap[T18]? = some (.cells (rowA ak).toArray 78 (0, 0)))) := fun W6 hW6 => by
      have HbW6 : Below w5.heap.size w5 W6 := by rw [← hW6]; exact (Below.refl _ _).alloc (Nat.le_refl _) _
      refine ⟨_, rfl, (HS4.out.call hx5 hc5).new HbW6, ?_, by show _ = _; rw [← hW6]; exact hp_at _ _ rfl⟩
      have h1 := hc5.at HT17.out (fun e => t18_ne HS4.out.x HT17.out (by decide) e)
      exact (HbW6.block T17 (lt_of_block h1)).trans h1
    clear hx5 hc5
    dsimp only
    go_wp2_with fail
    go_meet
    obtain ⟨T18, h1, h2, h3, h4⟩ := HW6.out _ rfl
    exact ⟨T18, by rw [h1], rfl, h2, h3, h4⟩
  case rest =>
    obtain ⟨U, hU⟩ : ∃ U, U = wc := ⟨_, rfl⟩
    subst hU
    obtain ⟨T18, rfl, rfl, hS6, hT17u, hT18u⟩ := hcut
    go_step
    refine piece_seq (piece_25 n sc b off C A i k w0 l G HF Hn.out HG hlt hbig Hr U c1 c2 ak asked _ _ _ wt bs hs50 hnn Hc1m.out Hc2m.out Hc1l.out hS6 Hc1O Hc2O Hc1S hc2.out hbi.out Hbi2.out hak.out Hc2R.out Htw.out hT17u hT18u K ?_) ?_
    · unfold Hid
      intros
      rename_i hr
      (refine HK.out _ _ _ _ _ _ _ _ _ _ _ _ _ _ _ _ _ _ _ _ _ _ _ _ _ _ _ _ _ _ _ _ _ _ _ _ _ _ _ _ _ _ _ _ _ _ _ _ _ _ _ _ _ _ _ _ _ _ _ _ _ _ _ _ _ _ _ _ _ _ _ _ _ _ _ _ _ _ _ _ _ _ _ _ _ _ _ _ _ _ _ _ _ _ _ _ _ _ _ _ _ _ _ _ _ _ _ _ _ _ _ _ _ _ _ _ _ _ _ _ _ _ _ _ _ _ _ _ _ _ _ _ _ _ _ _ _ _ _ _ _ _ _ _ _ _ _ _ _ _ _ _ _ _ _ _ _ _ _ _ _ _ _ _ _ _ _ _ _ _ _ _ _ _ _ _ _ _ _ _ _ _ _ _ _ _ _ _ _ _ _ _ _ _ _ _ _ _ _ _ _ _ _ _ _ _ _ _ _ _ _ _ _ _ _ _ _ _ _ _ _ _ _ _ _ _ _ _ ?_; exact hr)
    · exact fun _ _ h => h
end Go.Proofs.Ytckclacdmpcpbaa
