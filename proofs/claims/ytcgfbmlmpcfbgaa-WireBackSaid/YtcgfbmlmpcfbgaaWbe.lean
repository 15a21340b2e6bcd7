/-
  WireBack: the law's walk: the request; the law.
-/
import Derived.Test.YtcgfbmlmpcfbgaaWbd
import Derived.Test.YtcgfbmlmpcfbgaaRqc
import Derived.Test.YtcgfbmlmpcfbgaaRqr
namespace Go.Proofs.Ytcgfbmlmpcfbgaa
open Go.RowKit Wm Mm Lg
set_option linter.unusedVariables false
set_option linter.unusedSimpArgs false

theorem putReq_len {c n k i t : Nat} {key val : List UInt8} (hok : okReq c n k key val i t = true) (h0 : c ≠ 0) : (putReq c n k key val i t).length ≤ 256 := by
  have hok' := hok
  unfold okReq at hok'
  rw [if_neg (by omega)] at hok'
  simp only [Bool.and_eq_true] at hok'
  obtain ⟨⟨⟨h1, h2⟩, h3⟩, h4⟩ := hok'
  have b1 := inB_of h1
  have b2 := inB_of h2
  have b3 := inB_of h3
  obtain ⟨hk1, hk2, hk3, hk4⟩ := isCommand_facts h4
  have b4 := inB_of hk1
  have b5 := inB_of hk4
  have l1 := putNum_len10 (n := c) (by omega)
  have l2 := putNum_len10 (n := n) (by omega)
  have l3 := putNum_len10 (n := t) (by omega)
  have l4 := putNum_len10 (n := k) (by omega)
  have l5 := putNum_len10 (n := i) (by omega)
  have l6 := putText_len key (by omega)
  have l7 := putText_len val (by omega)
  rw [putReq, if_pos hok, if_neg (by omega)]
  simp [putCmd]
  omega
set_option maxHeartbeats 4000000 in
set_option maxRecDepth 100000 in
theorem back_req {v0 v5 v6 v7 v8 v9 v10 v11 v12 v13 v14 v15 v16 v17 v18 v19 v20 v21 v22 v23 v24 v25 v26 v27 v28 v29 v30 v31 v32 v33 v34 v35 v36 v37 v38 v39 v40 v41 v42 v43 v44 v45 v46 v47 v48 v49 v50 v51 v52 v53 v54 v55 v56 v57 v58 v59 v60 v61 v62 v63 v64 v65 v66 v67 v68 v69 v70 v71 v72 v73 v74 v75 v76 v77 v78 v79 v80 v81 v82 v83 v84 v85 v86 v87 v88 v89 v90 v91 v92 v93 v94 v95 v96 v97 v98 v99 v100 v101 v102 v103 v104 v105 v106 v107 v108 v109 v110 v111 v112 v113 v114 v115 v116 v117 v118 v119 v120 v121 v122 v123 v124 v125 v126 v127 v128 v129 v130 v131 v132 v133 v134 v135 v136 v137 v138 v139 v140 v141 v142 v143 v144 v145 v146 v147 v148 v149 v150 v151 v152 v153 v154 v155 v156 v157 v158 v159 v160 v161 v162 v163 v164 v165 v166 v167 v168 v169 v170 v171 v172 v173 v174 v175 v176 v177 v178 v179 v180 v181 v182 v183 v184 v185 v186 v187 v188 v189 v190 v191 v192 v193 v194 v195 v196 v197 v198 v199 v200 v201 v202 v203 v204 v205 v206 v207 v208 v209 v210 v211 v212 v213 v214 v215 v216 v217 v218 v219 v220 v221 v222 v223 v224 v225 v226 v227 v228 v229 v230 v231 v232 v233 v234 v235 v236 v237 v238 v239 v240 v241 v242 v243 v244 v245 v246 v247 v248 v249 v250 : Value} (key val rest : List UInt8) (n0 n1 n2 n3 n4 n5 : Int) (N : Nat) (W : World) (post : Ending → World → Prop) (hr : rest.length ≤ 9223372036000000000)
    (hk : key.length ≤ 16) (hv : val.length ≤ 64) (HN : Hid (W.heap[N]? = some (.cells (rowN n0 n1 n2 n3 n4 n5) 22 (0, 0)))) (Hp : Hid (∀ w', Below W.heap.size W w' → post (.returned (.bool true)) w')) :
    Code.wp Try.prog ((Try.f3.body.bind (seqAt 5)).getD .skip) (bodyPost Try.prog Try.f3 post) ⟨#[v0, str key, str val, str rest, .pointer (some ⟨N, 0, none⟩), v5, v6, v7, v8, v9, v10, v11, v12, v13, v14, v15, v16, v17, v18, v19, v20, v21, v22, v23, v24, v25, v26, v27, v28, v29, v30, v31, v32, v33, v34, v35, v36, v37, v38, v39, v40, v41, v42, v43, v44, v45, v46, v47, v48, v49, v50, v51, v52, v53, v54, v55, v56, v57, v58, v59, v60, v61, v62, v63, v64, v65, v66, v67, v68, v69, v70, v71, v72, v73, v74, v75, v76, v77, v78, v79, v80, v81, v82, v83, v84, v85, v86, v87, v88, v89, v90, v91, v92, v93, v94, v95, v96, v97, v98, v99, v100, v101, v102, v103, v104, v105, v106, v107, v108, v109, v110, v111, v112, v113, v114, v115, v116, v117, v118, v119, v120, v121, v122, v123, v124, v125, v126, v127, v128, v129, v130, v131, v132, v133, v134, v135, v136, v137, v138, v139, v140, v141, v142, v143, v144, v145, v146, v147, v148, v149, v150, v151, v152, v153, v154, v155, v156, v157, v158, v159, v160, v161, v162, v163, v164, v165, v166, v167, v168, v169, v170, v171, v172, v173, v174, v175, v176, v177, v178, v179, v180, v181, v182, v183, v184, v185, v186, v187, v188, v189, v190, v191, v192, v193, v194, v195, v196, v197, v198, v199, v200, v201, v202, v203, v204, v205, v206, v207, v208, v209, v210, v211, v212, v213, v214, v215, v216, v217, v218, v219, v220, v221, v222, v223, v224, v225, v226, v227, v228, v229, v230, v231, v232, v233, v234, v235, v236, v237, v238, v239, v240, v241, v242, v243, v244, v245, v246, v247, v248, v249, v250], []⟩ W := by
  conv => arg 2; whnf
  have b0 := pickN_lt (c := n0) (n := 1099511627775) (by omega)
  have b1 := pickN_lt (c := n1) (n := 1099511627776) (by omega)
  have b2 := pickN_lt (c := n2) (n := 1099511627776) (by omega)
  have HPK : Hid (∀ (c n : Int) (w1 : World), 0 < n → n ≤ 9223372036854775807 → Calls Try.prog 4 #[.int .i64 c, .int .i64 n] w1 fun e w' => e = .returned (.int .i64 (pickN c n : Nat)) ∧ w1 = w') := fun c n w1 h1 h2 => pick_any c n w1 h1 h2
  have m0 := cell_n HN.out 0 (v := .int .i64 n0) rfl
  have m1 := cell_n HN.out 1 (v := .int .i64 n1) rfl
  have m2 := cell_n HN.out 2 (v := .int .i64 n2) rfl
  have w0 : IntKind.i64.wrap (1 + (pickN n0 1099511627775 : Int)) = 1 + (pickN n0 1099511627775 : Int) := IntWalk.i64_in _ (by omega)
  have B0 := Lib.hid b0
  have B1 := Lib.hid b1
  have B2 := Lib.hid b2
  have Hk := Lib.hid hk
  have Hv := Lib.hid hv
  have hNl := lt_of_block HN.out
  have hNn : W.heap.size ≠ N := by omega
  have hd1 : (0 : Int) ≤ (key.length : Int) / 2 := by omega
  have hd2 : (key.length : Int) / 2 ≤ (key.length : Int) := by omega
  have hd3 : IntKind.i64.wrap ((key.length : Int) / 2) = (key.length : Int) / 2 := IntWalk.i64_in _ (by omega)
  have hd4 : ((key.length : Int) / 2).toNat = key.length / 2 := by omega
  have hd5 : (key.length : Int).tdiv 2 = (key.length : Int) / 2 := by rw [Int.tdiv_eq_ediv_of_nonneg (by omega)]
  have hn1 : ¬ 9223372036854775807 < 1 + key.length / 2 := by omega
  have hn2 : ¬ 9223372036854775807 < 1 + min (key.length / 2) key.length := by omega
  have hn3 : ¬ 9223372036854775807 < 1 + (key.take (key.length / 2)).length := by rw [List.length_take]; omega
  have hn4 : (key.take (key.length / 2)).length = key.length / 2 := by rw [List.length_take]; omega
  have hn5 : min (key.length / 2) key.length = key.length / 2 := by omega
  have Hr := Lib.hid hr
  clear b0 b1 b2 hv hr
  go_upto_region 5 with fail
  try dsimp only
  go_cut [9] from 37 to 55 (fun c9 wc => ∃ (Q : Nat) (kk : List UInt8) (p0 p1 p2 : Nat), c9 = .pointer (some ⟨Q, 0, none⟩) ∧ Hid ((p0 : Int) < 1099511627775 ∧ (p1 : Int) < 1099511627776 ∧ (p2 : Int) < 1099511627776) ∧ kk.length ≤ 16 ∧ kk ≠ [] ∧ Hid (wc.heap[Q]? = some (.cells #[.int .i64 (1 + (p0 : Int)), .int .i64 (p1 : Nat), .int .i64 1, str kk, str val, .int .i64 0, .int .i64 (p2 : Nat)] 27 (0, 0))) ∧ Hid (Below W.heap.size W wc))
  case first =>
    go_region_held3 (fun w' => w'.cell? ⟨N, 0, none⟩ = some (.int .i64 n0) ∧ w'.cell? ⟨N, 1, none⟩ = some (.int .i64 n1) ∧ w'.cell? ⟨N, 2, none⟩ = some (.int .i64 n2)) (first | with_reducible exact ⟨m0, m1, m2⟩ | go_keep) ((go_at_call 4; refine (HPK.out _ _ _ (by decide) (by decide)).mono ?_; rintro e w2 ⟨rfl, rfl⟩))
    all_goals
      go_wp2_with fail
      go_meet
      first
        | exact ⟨W.heap.size, ((#[107] : Array UInt8) ++ (key.take (key.length / 2)).toArray).toList, _, _, _, rfl, ⟨B0.out, B1.out, B2.out⟩, by have := Hk.out; simp; omega, by simp, (one_alloc W _ _).1, (one_alloc W _ _).2⟩
        | exact ⟨W.heap.size, 107 :: key.take (key.length / 2), _, _, _, rfl, ⟨B0.out, B1.out, B2.out⟩, by have := Hk.out; simp; omega, by simp, (one_alloc W _ _).1, (one_alloc W _ _).2⟩
  case rest =>
    obtain ⟨Q, kk, p0, p1, p2, rfl, hbs, hkk, hk0, hq, hbb⟩ := hcut
    have B0 : Hid ((p0 : Int) < 1099511627775) := hbs.out.1
    have B1 : Hid ((p1 : Int) < 1099511627776) := hbs.out.2.1
    have B2 : Hid ((p2 : Int) < 1099511627776) := hbs.out.2.2
    obtain ⟨W2, hW2⟩ : ∃ V, V = wc := ⟨_, rfl⟩
    subst hW2
    clear m0 m1 m2 w0 hNl hNn hk hd1 hd2 hd3 hd4 hd5 hn1 hn2 hn3 hn4 hn5
    obtain ⟨c, hc⟩ := hide (1 + p0)
    have hc1 : (1 + (p0 : Int)) = (c : Int) := by rw [← hc.out]; omega
    have hcb : 1 ≤ c ∧ c ≤ 1099511627775 := by rw [← hc.out]; have := B0.out; omega
    rw [hc1] at hq
    have hok : okReq (c : Int) p1 1 kk val 0 p2 = true := by
      have c1 : inB (c : Int) 0 1099511627775 = true := inB_mk (by omega) (by omega)
      have c2 : inB (p1 : Int) 0 1099511627775 = true := inB_mk (by omega) (by have := B1.out; omega)
      have c3 : inB (p2 : Int) 0 1099511627775 = true := inB_mk (by omega) (by have := B2.out; omega)
      have c4 : isCommand 1 kk val 0 = true := by
        have d1 : decide (kk.length ≤ 16) = true := decide_eq_true hkk
        have d2 : decide (val.length ≤ 64) = true := decide_eq_true Hv.out
        have d3 : (kk == []) = false := by cases kk with
          | nil => exact absurd rfl hk0
          | cons x l => rfl
        rw [isCommand, d1, d2, if_neg (by omega), if_neg (by omega), if_pos (Or.inl rfl), d3]
        rfl
      rw [okReq, c1, c2, c3, if_neg (by omega), c4]
      rfl
    have KP := wire_putRequest (c : Int) p1 1 kk val 0 p2 W2
    have e2 : putReqE (c : Int) p1 1 kk val 0 p2 = 0 := by rw [putReqE, if_pos hok]
    rw [e2] at KP
    have hl := putReq_len (k := 1) (i := 0) hok (by omega)
    have KG := fun w1 => wire_getRequest (putReq (c : Int) p1 ((1 : Nat) : Int) kk val ((0 : Nat) : Int) p2) w1 (by omega)
    have e3 : full (rdReq (putReq (c : Int) p1 ((1 : Nat) : Int) kk val ((0 : Nat) : Int) p2)) = .ok ⟨c, p1, ⟨1, kk, val, 0⟩, p2⟩ := by
      have := rdReq_put (c := c) (n := p1) (k := 1) (i := 0) (t := p2) (key := kk) (val := val) (by omega) hok []
      rw [List.append_nil] at this
      rw [this]
      rfl
    rw [e3] at KG
    have HKP : Hid (Calls Try.prog 5 #[vReq (c : Int) p1 1 kk val 0 p2] W2 fun e w' => e = .returned (.tuple #[str (putReq (c : Int) p1 ((1 : Nat) : Int) kk val ((0 : Nat) : Int) p2), .int .i64 0]) ∧ Below W2.heap.size W2 w') := KP
    have KG := Lib.hid KG
    obtain ⟨a, ha⟩ := hide (putReq (c : Int) p1 ((1 : Nat) : Int) kk val ((0 : Nat) : Int) p2)
    rw [ha.out] at HKP KG hl
    have Hl := Lib.hid hl
    clear KP e2 e3 ha hl hok hc1 hcb hkk hk0 hc
    have x0 := cell_n hq.out 0 (v := .int .i64 (c : Nat)) rfl
    have x1 := cell_n hq.out 1 (v := .int .i64 (p1 : Nat)) rfl
    have x2 := cell_n hq.out 2 (v := .int .i64 1) rfl
    have x3 := cell_n hq.out 3 (v := str kk) rfl
    have x4 := cell_n hq.out 4 (v := str val) rfl
    have x5 := cell_n hq.out 5 (v := .int .i64 0) rfl
    have x6 := cell_n hq.out 6 (v := .int .i64 (p2 : Nat)) rfl
    go_wp2_with fail
    refine HKP.out.mono ?_
    rintro e w3 ⟨rfl, hb3⟩
    have Hb3 := Lib.hid hb3
    clear hb3 x0 x1 x2 x3 x4 x5 x6
    go_wp2_with fail
    refine (KG.out _).mono ?_
    rintro e w4 ⟨rfl, hb4⟩
    obtain ⟨W5, hW5⟩ := hide (w4.alloc (.cells #[.int .i64 (c : Nat), .int .i64 (p1 : Nat), .int .i64 1, str kk, str val, .int .i64 0, .int .i64 (p2 : Nat)] 27))
    obtain ⟨Y, hY⟩ := hide w4.heap.size
    have hb24 := Hb3.out.trans (hb4.mono Hb3.out.size)
    have hb25 : Below W2.heap.size W2 W5 := by rw [← hW5.out]; exact hb24.alloc hb24.size _
    have HY5 : Hid (W5.heap[Y]? = some (.cells #[.int .i64 (c : Nat), .int .i64 (p1 : Nat), .int .i64 1, str kk, str val, .int .i64 0, .int .i64 (p2 : Nat)] 27 (0, 0))) := by show _ = _; rw [← hW5.out, ← hY.out]; exact hp_at _ _ rfl
    have HQ5 : Hid (W5.heap[Q]? = some (.cells #[.int .i64 (c : Nat), .int .i64 (p1 : Nat), .int .i64 1, str kk, str val, .int .i64 0, .int .i64 (p2 : Nat)] 27 (0, 0))) := (hb25.block Q (lt_of_block hq.out)).trans hq.out
    have hb05 : Below W.heap.size W W5 := hbb.out.trans (hb25.mono hbb.out.size)
    have HN5 : Hid (W5.heap[N]? = some (.cells (rowN n0 n1 n2 n3 n4 n5) 22 (0, 0))) := (hb05.block N (lt_of_block HN.out)).trans HN.out
    have HP5 : Hid (∀ w', Below W5.heap.size W5 w' → post (.returned (.bool true)) w') := fun w' h => Hp.out w' (hb05.trans (h.mono hb05.size))
    clear hb4 hb24 hb25 hb05
    have y0 := cell_n HY5.out 0 (v := .int .i64 (c : Nat)) rfl
    have y1 := cell_n HY5.out 1 (v := .int .i64 (p1 : Nat)) rfl
    have y2 := cell_n HY5.out 2 (v := .int .i64 1) rfl
    have y3 := cell_n HY5.out 3 (v := str kk) rfl
    have y4 := cell_n HY5.out 4 (v := str val) rfl
    have y5 := cell_n HY5.out 5 (v := .int .i64 0) rfl
    have y6 := cell_n HY5.out 6 (v := .int .i64 (p2 : Nat)) rfl
    have x0 := cell_n HQ5.out 0 (v := .int .i64 (c : Nat)) rfl
    have x1 := cell_n HQ5.out 1 (v := .int .i64 (p1 : Nat)) rfl
    have x2 := cell_n HQ5.out 2 (v := .int .i64 1) rfl
    have x3 := cell_n HQ5.out 3 (v := str kk) rfl
    have x4 := cell_n HQ5.out 4 (v := str val) rfl
    have x5 := cell_n HQ5.out 5 (v := .int .i64 0) rfl
    have x6 := cell_n HQ5.out 6 (v := .int .i64 (p2 : Nat)) rfl
    go_upto_region 8 with fail
    rw [hW5.out]
    try rw [hY.out]
    go_upto_if 76 with (fail)
    clear y0 y1 y2 y3 y4 y5 y6 x0 x1 x2 x3 x4 x5 x6
    iterate 14 (first | done | exact back_entry a n0 n1 n2 n3 n4 n5 rest N W5 post Hr.out Hl.out HN5 HP5 | go_step)

set_option maxHeartbeats 4000000 in
set_option maxRecDepth 100000 in
theorem law_back (n0 n1 n2 n3 n4 n5 : Int) (key val rest : List UInt8) (w : World) (hr : rest.length ≤ 9223372036000000000) (hk : key.length ≤ 9223372036854775807) (hv : val.length ≤ 9223372036854775807) :
    Calls Try.prog 3 #[.agg (rowN n0 n1 n2 n3 n4 n5), str key, str val, str rest] w fun e w' => e = .returned (.bool true) ∧ Below w.heap.size w w' := by
  obtain ⟨post, HP⟩ := hide (fun (e : Ending) (w' : World) => e = .returned (.bool true) ∧ Below w.heap.size w w')
  rw [HP.out]
  obtain ⟨W1, hW1⟩ := hide (w.alloc (.cells (rowN n0 n1 n2 n3 n4 n5) 22))
  obtain ⟨N, hN⟩ := hide w.heap.size
  have HN1 : Hid (W1.heap[N]? = some (.cells (rowN n0 n1 n2 n3 n4 n5) 22 (0, 0))) := by show _ = _; rw [← hW1.out, ← hN.out]; exact hp_at _ _ rfl
  have HP1 : Hid (∀ w', Below W1.heap.size W1 w' → post (.returned (.bool true)) w') := by
    show ∀ w', _ → _
    intro w' h
    rw [← HP.out]
    have h1 : Below w.heap.size w W1 := by rw [← hW1.out]; exact (Below.refl _ _).alloc (Nat.le_refl _) _
    exact ⟨rfl, h1.trans (h.mono h1.size)⟩
  by_cases h1 : 16 < key.length
  · have t1 : decide ((16 : Int) < (key.length : Int)) = true := decide_eq_true (by omega)
    have g1 : (key.take 16).length ≤ 16 := by rw [List.length_take]; omega
    have G1 := Lib.hid g1
    clear g1
    by_cases h2 : 64 < val.length
    · have t2 : decide ((64 : Int) < (val.length : Int)) = true := decide_eq_true (by omega)
      have G2 : Hid ((val.take 64).length ≤ 64) := by show _ ≤ _; rw [List.length_take]; omega
      go_enter Try.func3, Try.ntmps3
      go_upto_region 4 with fail
      rw [hW1.out]
      try rw [hN.out]
      iterate 14 (first | done | exact back_req (key.take 16) (val.take 64) rest n0 n1 n2 n3 n4 n5 N W1 post hr G1.out G2.out HN1 HP1 | go_step)
    · have t2 : decide ((64 : Int) < (val.length : Int)) = false := decide_eq_false (by omega)
      have G2 : Hid (val.length ≤ 64) := by show _ ≤ _; omega
      go_enter Try.func3, Try.ntmps3
      go_upto_if 34 with (fail)
      rw [hW1.out]
      try rw [hN.out]
      iterate 14 (first | done | exact back_req (key.take 16) val rest n0 n1 n2 n3 n4 n5 N W1 post hr G1.out G2.out HN1 HP1 | go_step)
  · have t1 : decide ((16 : Int) < (key.length : Int)) = false := decide_eq_false (by omega)
    have G1 : Hid (key.length ≤ 16) := by show _ ≤ _; omega
    by_cases h2 : 64 < val.length
    · have t2 : decide ((64 : Int) < (val.length : Int)) = true := decide_eq_true (by omega)
      have G2 : Hid ((val.take 64).length ≤ 64) := by show _ ≤ _; rw [List.length_take]; omega
      go_enter Try.func3, Try.ntmps3
      go_upto_region 4 with fail
      rw [hW1.out]
      try rw [hN.out]
      iterate 14 (first | done | exact back_req key (val.take 64) rest n0 n1 n2 n3 n4 n5 N W1 post hr G1.out G2.out HN1 HP1 | go_step)
    · have t2 : decide ((64 : Int) < (val.length : Int)) = false := decide_eq_false (by omega)
      have G2 : Hid (val.length ≤ 64) := by show _ ≤ _; omega
      go_enter Try.func3, Try.ntmps3
      go_upto_if 34 with (fail)
      rw [hW1.out]
      try rw [hN.out]
      iterate 14 (first | done | exact back_req key val rest n0 n1 n2 n3 n4 n5 N W1 post hr G1.out G2.out HN1 HP1 | go_step)
end Go.Proofs.Ytcgfbmlmpcfbgaa
