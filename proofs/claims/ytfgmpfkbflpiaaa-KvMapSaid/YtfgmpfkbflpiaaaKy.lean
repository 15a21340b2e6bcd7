/-
  KvMap: what is put, what is deleted.
-/
import Derived.Test.YtfgmpfkbflpiaaaKyr
namespace Go.Proofs.Ytfgmpfkbflpiaaa
open Go.RowKit Wm Mm Dg Kv
set_option linter.unusedVariables false
set_option linter.unusedSimpArgs false

set_option maxHeartbeats 4000000 in
set_option maxRecDepth 100000 in
theorem piece_m35 {v0 v1 v2 v3 v4 v5 v8 v13 v14 v18 v19 v20 v21 v22 v23 v24 v25 v26 v27 v28 v29 v30 v31 v32 v33 v34 v35 v36 v37 v38 v39 v40 v41 v42 v43 v44 v45 v46 v47 v48 v49 v50 v51 v52 v53 v54 v55 v56 v57 v58 v59 v60 v61 v62 v63 v64 v65 v66 v67 v68 v69 v70 v71 v72 v73 v74 v75 v76 v77 v78 v79 v80 v81 v82 v83 v84 v85 v86 v87 v88 v89 v90 v91 v92 v93 v94 v95 v96 v97 v98 v99 v100 v101 v102 v103 v104 v105 v106 v107 v108 v109 v110 v111 v112 v113 v114 v115 v116 v117 v118 v119 v120 v121 v122 v123 v124 v125 v126 v127 v128 v129 v130 v131 v132 v133 v134 v135 v136 v137 v138 v139 v140 v141 v142 v143 v144 v145 v146 v147 v148 v149 v150 v151 v152 v153 v154 v155 v156 v157 v158 v159 v160 v161 v162 v163 v164 v165 v166 v167 v168 v169 v170 v171 v172 v173 v174 v175 v176 v177 v178 v179 v180 v181 v182 v183 v184 v185 v186 v187 v188 v189 v190 v191 v192 v193 v194 v195 v196 v197 v198 v199 v200 v201 v202 v203 v204 v205 v206 v207 v208 v209 v210 v211 v212 v213 v214 v215 v216 v217 v218 v219 v220 v221 v222 v223 v224 v225 v226 v227 v228 v229 v230 v231 v232 v233 v234 v235 v236 v237 v238 v239 v240 v241 v242 v243 : Value} (S i n C T pn nc kc vc : Nat) (w0 W : World) (na ka va : Option Addr) (p : List PairP) (keys vals : List (List UInt8)) (atv rk rv kd : Int) (ck cval rs v : List UInt8) (rkv : Value) (room put e1 : Bool)
    (HM : Hid (MapW S W (.slice na pn nc) (.slice ka n kc) (.slice va n vc) p keys vals)) (hpn : pn = p.length) (hn : n = keys.length) (hvn : n = vals.length) (hn32 : n ≤ 32) (hS0 : w0.heap.size ≤ S) (hS : S ≤ W.heap.size) (HB : Hid (Below w0.heap.size w0 W))
    (HC : Hid (W.heap[C]? = some (.cells #[.int .i64 kd, str ck, str cval, .int .i64 0] 30 (0, 0)))) (HT : Hid (W.heap[T]? = some (.cells (rowRes rk rs rv rkv).toArray 26 (0, 0))))
    (he1 : (put && (room && decide (v.length ≤ 64))) = e1)
    (hcase : (e1 = true ∧ rk = 1 ∧ kd ≠ 3 ∧ ((atv = -1 ∧ Hid (MapInv p (keys ++ [ck]) (vals ++ [v]) (i + 1))) ∨ ∃ a : Nat, a < n ∧ atv = (a : Int) ∧ Hid (MapInv p keys (vals.set a v) (i + 1)))) ∨
      (e1 = false ∧ ((kd = 3 ∧ rk = 1 ∧ ∃ a : Nat, a < n ∧ atv = (a : Int) ∧ Hid (MapInv p (keys.eraseIdx a) (vals.eraseIdx a) (i + 1))) ∨ ((kd ≠ 3 ∨ atv = -1) ∧ Hid (MapInv p keys vals (i + 1))))))
    (K : Act → World → Prop)
    (HK : Hid (∀ (u2 u5 u6 u7 u12 u18 u19 u20 u153 u154 u155 u156 u157 u158 u159 u160 u161 u162 u163 u164 u165 u166 u167 u168 u169 u170 u171 u172 u173 u174 u175 u176 u177 u178 u179 u180 u181 u182 u183 u184 u185 u186 u187 u188 u189 u190 u191 u192 u193 u194 u195 u196 u197 u198 u199 u200 u201 u202 u203 u204 u205 u206 u207 u208 u209 u210 u211 u212 u213 u214 u215 u216 u217 u218 u219 u220 u221 u222 u223 u224 u225 u226 u227 u228 u229 u230 u231 u232 u233 u234 u235 u236 u237 u238 u239 u240 u241 u242 u243 : Value) (wx : World), MapEnd S w0 wx (i + 1) u5 u6 u7 → K ⟨#[v0, v1, u2, v3, v4, u5, u6, u7, v8, .pointer (some ⟨C, 0, none⟩), .slice na pn nc, .pointer (some ⟨T, 0, none⟩), u12, v13, v14, .bool room, .bool put, str v, u18, u19, u20, v21, v22, v23, v24, v25, v26, v27, v28, v29, v30, v31, v32, v33, v34, v35, v36, v37, v38, v39, v40, v41, v42, v43, v44, v45, v46, v47, v48, v49, v50, v51, v52, v53, v54, v55, v56, v57, v58, v59, v60, v61, v62, v63, v64, v65, v66, v67, v68, v69, v70, v71, v72, v73, v74, v75, v76, v77, v78, v79, v80, v81, v82, v83, v84, v85, v86, v87, v88, v89, v90, v91, v92, v93, v94, v95, v96, v97, v98, v99, v100, v101, v102, v103, v104, v105, v106, v107, v108, v109, v110, v111, v112, v113, v114, v115, v116, v117, v118, v119, v120, v121, v122, v123, v124, v125, v126, v127, v128, v129, v130, v131, v132, v133, v134, v135, v136, v137, v138, v139, v140, v141, v142, v143, v144, v145, v146, v147, v148, v149, v150, v151, v152, u153, u154, u155, u156, u157, u158, u159, u160, u161, u162, u163, u164, u165, u166, u167, u168, u169, u170, u171, u172, u173, u174, u175, u176, u177, u178, u179, u180, u181, u182, u183, u184, u185, u186, u187, u188, u189, u190, u191, u192, u193, u194, u195, u196, u197, u198, u199, u200, u201, u202, u203, u204, u205, u206, u207, u208, u209, u210, u211, u212, u213, u214, u215, u216, u217, u218, u219, u220, u221, u222, u223, u224, u225, u226, u227, u228, u229, u230, u231, u232, u233, u234, u235, u236, u237, u238, u239, u240, u241, u242, u243], []⟩ wx)) :
    Code.wp Try.prog ((Try.f4.body.bind (seqAt 35)).getD .skip) (Exit.then K fun _ _ _ => False) ⟨#[v0, v1, v2, v3, v4, v5, .slice ka n kc, .slice va n vc, v8, .pointer (some ⟨C, 0, none⟩), .slice na pn nc, .pointer (some ⟨T, 0, none⟩), .int .i64 atv, v13, v14, .bool room, .bool put, str v, v18, v19, v20, v21, v22, v23, v24, v25, v26, v27, v28, v29, v30, v31, v32, v33, v34, v35, v36, v37, v38, v39, v40, v41, v42, v43, v44, v45, v46, v47, v48, v49, v50, v51, v52, v53, v54, v55, v56, v57, v58, v59, v60, v61, v62, v63, v64, v65, v66, v67, v68, v69, v70, v71, v72, v73, v74, v75, v76, v77, v78, v79, v80, v81, v82, v83, v84, v85, v86, v87, v88, v89, v90, v91, v92, v93, v94, v95, v96, v97, v98, v99, v100, v101, v102, v103, v104, v105, v106, v107, v108, v109, v110, v111, v112, v113, v114, v115, v116, v117, v118, v119, v120, v121, v122, v123, v124, v125, v126, v127, v128, v129, v130, v131, v132, v133, v134, v135, v136, v137, v138, v139, v140, v141, v142, v143, v144, v145, v146, v147, v148, v149, v150, v151, v152, v153, v154, v155, v156, v157, v158, v159, v160, v161, v162, v163, v164, v165, v166, v167, v168, v169, v170, v171, v172, v173, v174, v175, v176, v177, v178, v179, v180, v181, v182, v183, v184, v185, v186, v187, v188, v189, v190, v191, v192, v193, v194, v195, v196, v197, v198, v199, v200, v201, v202, v203, v204, v205, v206, v207, v208, v209, v210, v211, v212, v213, v214, v215, v216, v217, v218, v219, v220, v221, v222, v223, v224, v225, v226, v227, v228, v229, v230, v231, v232, v233, v234, v235, v236, v237, v238, v239, v240, v241, v242, v243], []⟩ W := by
  conv => arg 2; whnf
  have Hhn := Lib.hid hn
  have Hvn := Lib.hid hvn
  have Hpn := Lib.hid hpn
  have HS0 := Lib.hid hS0
  have HSS := Lib.hid hS
  have He1 := Lib.hid he1
  clear hn hvn hpn hS0 he1 hS
  go_upto_region 35 with fail
  try dsimp only
  go_cut [161] from 153 to 161 (fun s wx => s = .bool e1 ∧ wx = W)
  case first =>
    have h1 := He1.out
    cases put
    · have h2 : e1 = false := h1.symm
      clear h1 He1 hcase
      subst h2
      go_wp2_with fail
      go_meet
      exact ⟨rfl, rfl⟩
    · cases room
      · have h2 : e1 = false := h1.symm
        clear h1 He1 hcase
        subst h2
        go_wp2_with fail
        go_meet
        exact ⟨rfl, rfl⟩
      · have h2 : decide (v.length ≤ 64) = e1 := h1
        clear h1 He1 hcase
        cases e1
        · have h3 : ¬ v.length ≤ 64 := of_decide_eq_false h2
          have h4 : decide ((v.length : Int) ≤ 64) = false := decide_eq_false (by omega)
          clear h2
          go_wp2_with fail
          go_meet
          exact ⟨rfl, rfl⟩
        · have h3 : v.length ≤ 64 := of_decide_eq_true h2
          have h4 : decide ((v.length : Int) ≤ 64) = true := decide_eq_true (by omega)
          clear h2
          go_wp2_with fail
          go_meet
          exact ⟨rfl, rfl⟩
  case rest =>
    obtain ⟨rfl, hWc⟩ := hcut
    subst hWc
    obtain ⟨Z, hZ⟩ : ∃ Z, Z = wc := ⟨_, rfl⟩
    subst hZ
    go_upto_if 161 with fail
    go_cut [6, 7, 12] from 162 to 181 (fun s6 s7 s12 wx => (e1 = false ∧ s6 = .slice ka n kc ∧ s7 = .slice va n vc ∧ s12 = .int .i64 atv ∧ wx = Z) ∨ (e1 = true ∧ PutEnd S w0 Z wx C i [.int .i64 kd, str ck, str cval, .int .i64 0] (.slice na pn nc) p s6 s7 s12))
    case first =>
      rcases hcase with ⟨rfl, hrk, hkd, hab⟩ | ⟨rfl, _⟩
      · subst hrk
        have t0 := cell_n HT.out 0 (v := .int .i64 1) rfl
        have k1 := cell_n HC.out 1 (v := str ck) rfl
        rcases hab with ⟨hat, hinv⟩ | ⟨a, ha, hat, hinv⟩
        · subst hat
          have HKr : Hid (Z.ownsRow S 9 1 (.slice ka n kc) n (keys.flatMap rowText)) := by show World.ownsRow _ _ _ _ _ _ _; have h := HM.out.hk; rw [OwnT, ← Hhn.out] at h; exact h
          go_wp2_with (at_builtin; refine wpList_push_at rfl _ _ 24 rfl S 9 _ 1 16 Try.underlying24 info_text rfl _ _ _ rfl HKr.out _ rfl rfl (by intro u hu; simp at hu; subst hu; rfl) (by unfold maxLen; omega) (by omega) HSS.out ?_)
          intro k2 W2 ho2 hg2 hb2
          obtain ⟨ka2, kc2, rfl⟩ := owns_slice ho2
          have HM2 : Hid (MapW S W2 (.slice na pn nc) (.slice ka2 (n + 1) kc2) (.slice va n vc) p (keys ++ [ck]) vals) := HM.out.pushK (by rw [← Hhn.out]; exact ho2) hg2 hb2
          have HS2 : Hid (S ≤ W2.heap.size) := Nat.le_trans HSS.out hg2.size
          have HB2 : Hid (Below w0.heap.size w0 W2) := HB.out.trans (below_own HKr.out hg2 HS0.out HB.out.size)
          have HC2 : Hid (W2.heap[C]? = some (.cells #[.int .i64 kd, str ck, str cval, .int .i64 0] 30 (0, 0))) := chg_box HKr.out hg2 HC.out (by decide)
          clear ho2 hg2 hb2 t0 k1
          have HVr : Hid (W2.ownsRow S 9 1 (.slice va n vc) n (vals.flatMap rowText)) := by show World.ownsRow _ _ _ _ _ _ _; have h := HM2.out.hv; rw [OwnT, ← Hvn.out] at h; exact h
          go_wp2_with (at_builtin; refine wpList_push_at rfl _ _ 24 rfl S 9 _ 1 16 Try.underlying24 info_text rfl _ _ _ rfl HVr.out _ rfl rfl (by intro u hu; simp at hu; subst hu; rfl) (by unfold maxLen; omega) (by omega) HS2.out ?_)
          intro v2 W3 ho3 hg3 hb3
          obtain ⟨va3, vc3, rfl⟩ := owns_slice ho3
          obtain ⟨g, rfl⟩ := own_some ho3 (by omega)
          have HM3 : Hid (MapW S W3 (.slice na pn nc) (.slice ka2 (n + 1) kc2) (.slice (some ⟨g, 0, none⟩) (n + 1) vc3) p (keys ++ [ck]) (vals ++ [[]])) := HM2.out.pushV (by rw [← Hvn.out]; exact ho3) hg3 hb3
          have HB3 : Hid (Below w0.heap.size w0 W3) := HB2.out.trans (below_own HVr.out hg3 HS0.out HB2.out.size)
          have HC3 : Hid (W3.heap[C]? = some (.cells #[.int .i64 kd, str ck, str cval, .int .i64 0] 30 (0, 0))) := chg_box HVr.out hg3 HC2.out (by decide)
          have HS3 : Hid (S ≤ W3.heap.size) := Nat.le_trans HS2.out hg3.size
          have y0 : W3.cell? ⟨g, n, none⟩ = some (str []) := own_cell ho3 (by rw [List.getElem?_append_right (by rw [flat_len (size := 1) rowText (fun _ => rfl), ← Hvn.out]; omega), flat_len (size := 1) rowText (fun _ => rfl), ← Hvn.out, Nat.mul_one, Nat.sub_self]; rfl)
          have y1 := own_free ho3 n
          have hgS := (own_lt ho3).2.2.1
          have HgC : Hid (g ≠ C) := fun e => own_blk_ne ho3 HC3.out (by decide) (by simp [Value.ownBlock, e])
          have HM4 : Hid (MapW S (W3.setCell ⟨g, n, none⟩ (str v)) (.slice na pn nc) (.slice ka2 (n + 1) kc2) (.slice (some ⟨g, 0, none⟩) (n + 1) vc3) p (keys ++ [ck]) (vals ++ [v])) := by
            have h := HM3.out.setV (by rw [List.length_append, ← Hvn.out]; rfl) n v
            rw [set_last vals n v Hvn.out] at h
            exact h
          have HP : Hid (PutEnd S w0 Z (W3.setCell ⟨g, n, none⟩ (str v)) C i [.int .i64 kd, str ck, str cval, .int .i64 0] (.slice na pn nc) p (.slice ka2 (n + 1) kc2) (.slice (some ⟨g, 0, none⟩) (n + 1) vc3) (.int .i64 (n : Int))) :=
            ⟨n + 1, kc2, vc3, ka2, _, keys ++ [ck], vals ++ [v], _, rfl, rfl, rfl, by rw [List.length_append, ← Hhn.out]; rfl, HM4, hinv, HB3.out.setCell (by show _ ≤ g; have := HS0.out; omega) _, by have := HS3.out; simpa using this, hp_set_other HC3.out (fun e => HgC.out e)⟩
          have q1 : (n : Int) < (n : Int) + 1 := by omega
          clear ho3 hg3 hb3 hgS
          go_wp2_with fail
          go_meet
          first | exact Or.inr ⟨rfl, HP.out⟩ | exact Or.inr ⟨trivial, HP.out⟩
        · subst hat
          have HVr : Hid (Z.ownsRow S 9 1 (.slice va n vc) n (vals.flatMap rowText)) := by show World.ownsRow _ _ _ _ _ _ _; have h := HM.out.hv; rw [OwnT, ← Hvn.out] at h; exact h
          obtain ⟨g, rfl⟩ := own_some HVr.out (by omega)
          have hav : a < vals.length := by rw [← Hvn.out]; exact ha
          have hfl : (vals.flatMap rowText)[a]? = some (str vals[a]) := by
            have h := flat_at vals a hav
            exact h
          have y0 := own_cell HVr.out hfl
          have y1 := own_free HVr.out a
          have hgS := (own_lt HVr.out).2.2.1
          have HgC : Hid (g ≠ C) := fun e => own_blk_ne HVr.out HC.out (by decide) (by simp [Value.ownBlock, e])
          have HM4 : Hid (MapW S (Z.setCell ⟨g, a, none⟩ (str v)) (.slice na pn nc) (.slice ka n kc) (.slice (some ⟨g, 0, none⟩) n vc) p keys (vals.set a v)) := HM.out.setV Hvn.out a v
          have HP : Hid (PutEnd S w0 Z (Z.setCell ⟨g, a, none⟩ (str v)) C i [.int .i64 kd, str ck, str cval, .int .i64 0] (.slice na pn nc) p (.slice ka n kc) (.slice (some ⟨g, 0, none⟩) n vc) (.int .i64 (a : Int))) :=
            ⟨n, kc, vc, ka, _, keys, vals.set a v, _, rfl, rfl, rfl, Hhn.out, HM4, hinv, HB.out.setCell (by show _ ≤ g; have := HS0.out; omega) _, by have := HSS.out; simpa using this, hp_set_other HC.out (fun e => HgC.out e)⟩
          have q1 : (a : Int) < (n : Int) := by omega
          obtain ⟨yo, hyo⟩ := hide vals[a]
          rw [hyo.out] at y0
          clear hgS hfl
          go_wp2_with fail
          go_meet
          first | exact Or.inr ⟨rfl, HP.out⟩ | exact Or.inr ⟨trivial, HP.out⟩
      · go_wp2_with fail
        go_meet
        exact Or.inl (by first | exact ⟨rfl, rfl, rfl, rfl, rfl⟩ | exact ⟨trivial, rfl, rfl, rfl, rfl⟩ | simp)
    case rest =>
      obtain ⟨Y, hY⟩ : ∃ Y, Y = wc := ⟨_, rfl⟩
      subst hY
      rcases hcut with ⟨he, rfl, rfl, rfl, hYZ⟩ | ⟨he, n2, kc2, vc2, ka2, va2, keys2, vals2, at2, rfl, rfl, rfl, hn2, hM2, hI2, hB2, hS2, hC2⟩
      · subst hYZ
        subst he
        rcases hcase with ⟨h, _⟩ | ⟨_, hcd⟩
        · cases h
        rcases hcd with ⟨hkd, hrk, a, ha, hat, hinv⟩ | ⟨hkat, hinv⟩
        · subst hkd hrk hat
          have HC0 := cell_n HC.out 0 (v := .int .i64 3) rfl
          go_upto_region 43 with fail
          go_cut [188] from 182 to 188 (fun s wx => s = .bool true ∧ wx = Y)
          case first =>
            have q9 : decide (0 ≤ (a : Int)) = true := decide_eq_true (by omega)
            go_wp2_with fail
            go_meet
            exact ⟨rfl, rfl⟩
          case rest =>
            obtain ⟨rfl, hWc⟩ := hcut
            obtain ⟨Y0, hY0⟩ : ∃ Y0, Y0 = wc := ⟨_, rfl⟩
            subst hY0
            subst hWc
            clear HC0
            go_upto_if 188 with fail
            go_cut [6, 7] from 189 to 209 (fun s6 s7 wx => DelEnd S w0 wx i (.slice na pn nc) p s6 s7)
            case first =>
              rename_i J0 K0 hJ0 hK0
              have t0 := cell_n HT.out 0 (v := .int .i64 1) rfl
              have HKr : Hid (Y0.ownsRow S 9 1 (.slice ka n kc) n (keys.flatMap rowText)) := by show World.ownsRow _ _ _ _ _ _ _; have h := HM.out.hk; rw [OwnT, ← Hhn.out] at h; exact h
              go_upto_region 46 with fail
              go_cut [6] from 192 to 200 (fun s wx => ∃ a6 c6, s = .slice a6 (a + (n - (a + 1))) c6 ∧ Hid (OwnT Y0.heap.size wx (.slice a6 (a + (n - (a + 1))) c6) (keys.eraseIdx a)) ∧ Hid (Below Y0.heap.size Y0 wx))
              case first =>
                rename_i J' K' hJ' hK'
                refine piece_any (piece_r46 S n a kc Y0 ka keys HKr Hhn.out hn32 ha K' ?_)
                unfold Hid
                intros
                refine hK' _ _ (Met.intro (hJ' _ _ ?_))
                (repeat apply Exists.intro)
                refine ⟨?_, rfl⟩
                rename_i hr
                exact hr
              case rest =>
                obtain ⟨Y1, hY1⟩ : ∃ Y1, Y1 = wc := ⟨_, rfl⟩
                subst hY1
                obtain ⟨a6, c6, rfl, hk6, hb6⟩ := hcut
                clear t0
                have HVr : Hid (Y1.ownsRow S 9 1 (.slice va n vc) n (vals.flatMap rowText)) := by show World.ownsRow _ _ _ _ _ _ _; have h := (HM.out.below hb6.out).hv; rw [OwnT, ← Hvn.out] at h; exact h
                go_step
                refine piece_seq (piece_r47 S n a vc Y1 va vals HVr Hvn.out hn32 ha _ ?_) (fun _ _ h => h)
                unfold Hid
                intros
                rename_i hr
                obtain ⟨a7, c7, rfl, hv7, hb7⟩ := hr
                have hkl : a < keys.length := by rw [← Hhn.out]; exact ha
                have HD : Hid (DelEnd S w0 _ i (.slice na pn nc) p (.slice a6 (a + (n - (a + 1))) c6) (.slice a7 (a + (n - (a + 1))) c7)) := ⟨a + (n - (a + 1)), c6, c7, a6, a7, keys.eraseIdx a, vals.eraseIdx a, rfl, rfl, by rw [List.length_eraseIdx, if_pos hkl, ← Hhn.out]; omega, HM.out.del HSS.out hb6.out hk6.out hb7 hv7, hinv, HB.out.trans ((hb6.out.trans (hb7.mono hb6.out.size)).mono HB.out.size), Nat.le_trans HSS.out (Nat.le_trans hb6.out.size hb7.size)⟩
                refine hK0 _ _ (Met.intro (hJ0 _ _ ?_))
                (repeat apply Exists.intro)
                exact ⟨HD.out, rfl⟩
            case rest =>
              obtain ⟨X, hX⟩ : ∃ X, X = wc := ⟨_, rfl⟩
              subst hX
              obtain ⟨n3, kc3, vc3, ka3, va3, keys3, vals3, rfl, rfl, hn3, hM3, hI3, hB3, hS3⟩ := hcut
              obtain rfl : n3 = pn := by rw [hn3, Hpn.out]; exact hI3.out.len.symm
              go_step
              refine piece_seq (piece_m48 S i n3 w0 X na ka3 va3 nc kc3 vc3 p keys3 vals3 hM3 hI3 hn3 hS3 hB3 K ?_) (fun _ _ h => h)
              unfold Hid
              intros
              rename_i hr
              exact HK.out _ _ _ _ _ _ _ _ _ _ _ _ _ _ _ _ _ _ _ _ _ _ _ _ _ _ _ _ _ _ _ _ _ _ _ _ _ _ _ _ _ _ _ _ _ _ _ _ _ _ _ _ _ _ _ _ _ _ _ _ _ _ _ _ _ _ _ _ _ _ _ _ _ _ _ _ _ _ _ _ _ _ _ _ _ _ _ _ _ _ _ _ _ _ _ _ _ _ _ _ hr
        · have HC0 := cell_n HC.out 0 (v := .int .i64 kd) rfl
          go_upto_region 43 with fail
          go_cut [188] from 182 to 188 (fun s wx => s = .bool false ∧ wx = Y)
          case first =>
            by_cases h3 : kd = 3
            · have hat : atv = -1 := by
                rcases hkat with h | h
                · exact absurd h3 h
                · exact h
              subst h3 hat
              go_wp2_with fail
              go_meet
              exact ⟨rfl, rfl⟩
            · have t3 : (kd == 3) = false := beq_eq_false_iff_ne.2 h3
              clear h3 hkat
              go_wp2_with fail
              go_meet
              exact ⟨rfl, rfl⟩
          case rest =>
            obtain ⟨rfl, hWc⟩ := hcut
            subst hWc
            clear HC0
            go_upto_if 188 with fail
            go_cut [6, 7] from 189 to 209 (fun s6 s7 wx => DelEnd S w0 wx i (.slice na pn nc) p s6 s7)
            case first =>
              have HD : Hid (DelEnd S w0 wc i (.slice na pn nc) p (.slice ka n kc) (.slice va n vc)) := ⟨n, kc, vc, ka, va, keys, vals, rfl, rfl, Hhn.out, HM, hinv, HB, HSS.out⟩
              go_wp2_with fail
              go_meet
              exact HD.out
            case rest =>
              obtain ⟨X, hX⟩ : ∃ X, X = wc := ⟨_, rfl⟩
              subst hX
              obtain ⟨n3, kc3, vc3, ka3, va3, keys3, vals3, rfl, rfl, hn3, hM3, hI3, hB3, hS3⟩ := hcut
              obtain rfl : n3 = pn := by rw [hn3, Hpn.out]; exact hI3.out.len.symm
              go_step
              refine piece_seq (piece_m48 S i n3 w0 X na ka3 va3 nc kc3 vc3 p keys3 vals3 hM3 hI3 hn3 hS3 hB3 K ?_) (fun _ _ h => h)
              unfold Hid
              intros
              rename_i hr
              exact HK.out _ _ _ _ _ _ _ _ _ _ _ _ _ _ _ _ _ _ _ _ _ _ _ _ _ _ _ _ _ _ _ _ _ _ _ _ _ _ _ _ _ _ _ _ _ _ _ _ _ _ _ _ _ _ _ _ _ _ _ _ _ _ _ _ _ _ _ _ _ _ _ _ _ _ _ _ _ _ _ _ _ _ _ _ _ _ _ _ _ _ _ _ _ _ _ _ _ _ _ _ hr
      · subst he
        have hkd : kd ≠ 3 := by
          rcases hcase with ⟨_, _, h, _⟩ | ⟨h, _⟩
          · exact h
          · cases h
        have HC0 := cell_n hC2.out 0 (v := .int .i64 kd) rfl
        have t3 : (kd == 3) = false := beq_eq_false_iff_ne.2 hkd
        have HD : Hid (DelEnd S w0 Y i (.slice na pn nc) p (.slice ka2 n2 kc2) (.slice va2 n2 vc2)) := ⟨n2, kc2, vc2, ka2, va2, keys2, vals2, rfl, rfl, hn2, hM2, hI2, hB2, hS2⟩
        clear hkd hcase hn2
        go_upto_if 188 with fail
        go_cut [6, 7] from 189 to 209 (fun s6 s7 wx => DelEnd S w0 wx i (.slice na pn nc) p s6 s7)
        case first =>
          go_wp2_with fail
          go_meet
          exact HD.out
        case rest =>
          obtain ⟨X, hX⟩ : ∃ X, X = wc := ⟨_, rfl⟩
          subst hX
          obtain ⟨n3, kc3, vc3, ka3, va3, keys3, vals3, rfl, rfl, hn3, hM3, hI3, hB3, hS3⟩ := hcut
          obtain rfl : n3 = pn := by rw [hn3, Hpn.out]; exact hI3.out.len.symm
          go_step
          refine piece_seq (piece_m48 S i n3 w0 X na ka3 va3 nc kc3 vc3 p keys3 vals3 hM3 hI3 hn3 hS3 hB3 K ?_) (fun _ _ h => h)
          unfold Hid
          intros
          rename_i hr
          exact HK.out _ _ _ _ _ _ _ _ _ _ _ _ _ _ _ _ _ _ _ _ _ _ _ _ _ _ _ _ _ _ _ _ _ _ _ _ _ _ _ _ _ _ _ _ _ _ _ _ _ _ _ _ _ _ _ _ _ _ _ _ _ _ _ _ _ _ _ _ _ _ _ _ _ _ _ _ _ _ _ _ _ _ _ _ _ _ _ _ _ _ _ _ _ _ _ _ _ _ _ _ hr
end Go.Proofs.Ytfgmpfkbflpiaaa
