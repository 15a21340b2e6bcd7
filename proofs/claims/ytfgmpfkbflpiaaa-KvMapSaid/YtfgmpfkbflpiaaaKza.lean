/-
  KvMap: the command is done; where its key is.
-/
import Derived.Test.YtfgmpfkbflpiaaaKz
namespace Go.Proofs.Ytfgmpfkbflpiaaa
open Go.RowKit Wm Mm Dg Kv
set_option linter.unusedVariables false
set_option linter.unusedSimpArgs false

set_option maxHeartbeats 4000000 in
set_option maxRecDepth 100000 in
theorem piece_m20 {v0 v1 v2 v3 v4 v8 v10 v11 v12 v13 v14 v15 v16 v17 v18 v19 v20 v21 v22 v23 v24 v25 v26 v27 v28 v29 v30 v31 v32 v33 v34 v35 v36 v37 v38 v39 v40 v41 v42 v43 v44 v45 v46 v47 v48 v49 v50 v51 v52 v53 v54 v55 v56 v57 v58 v59 v60 v61 v62 v63 v64 v65 v66 v67 v68 v69 v70 v71 v72 v73 v74 v75 v76 v77 v78 v79 v80 v81 v82 v83 v84 v85 v86 v87 v88 v89 v90 v91 v92 v93 v94 v95 v96 v97 v98 v99 v100 v101 v102 v103 v104 v105 v106 v107 v108 v109 v110 v111 v112 v113 v114 v115 v116 v117 v118 v119 v120 v121 v122 v123 v124 v125 v126 v127 v128 v129 v130 v131 v132 v133 v134 v135 v136 v137 v138 v139 v140 v141 v142 v143 v144 v145 v146 v147 v148 v149 v150 v151 v152 v153 v154 v155 v156 v157 v158 v159 v160 v161 v162 v163 v164 v165 v166 v167 v168 v169 v170 v171 v172 v173 v174 v175 v176 v177 v178 v179 v180 v181 v182 v183 v184 v185 v186 v187 v188 v189 v190 v191 v192 v193 v194 v195 v196 v197 v198 v199 v200 v201 v202 v203 v204 v205 v206 v207 v208 v209 v210 v211 v212 v213 v214 v215 v216 v217 v218 v219 v220 v221 v222 v223 v224 v225 v226 v227 v228 v229 v230 v231 v232 v233 v234 v235 v236 v237 v238 v239 v240 v241 v242 v243 : Value} (S i n C pn pc kc vc : Nat) (w0 W : World) (pa ka va : Option Addr) (p0 : List PairP) (keys vals : List (List UInt8)) (c : CmdP)
    (HM : Hid (MapW S W (.slice pa pn pc) (.slice ka n kc) (.slice va n vc) p0 keys vals)) (HI : Hid (MapInv p0 keys vals i)) (hi : i ≤ 1048576) (hpn : pn = p0.length) (hn : n = keys.length) (hS0 : w0.heap.size ≤ S) (hS : S ≤ W.heap.size) (HB : Hid (Below w0.heap.size w0 W))
    (HC : Hid (W.heap[C]? = some (.cells #[.int .i64 c.kind, str c.key, str c.val, .int .i64 0] 30 (0, 0))))
    (Hc : Hid (isCommand c.kind c.key c.val c.iff = true)) (Hk : Hid (c.key ≠ [] ∧ c.key.length ≤ 16)) (Hif : Hid (c.iff = 0)) (Hv : Hid (c.val.length ≤ 64))
    (K : Act → World → Prop)
    (HK : Hid (∀ (u2 u5 u6 u7 u10 u11 u12 u13 u14 u15 u16 u17 u18 u19 u20 u94 u95 u96 u97 u98 u99 u100 u101 u102 u103 u104 u105 u106 u107 u108 u109 u110 u111 u112 u113 u114 u115 u116 u117 u118 u119 u120 u121 u122 u123 u124 u125 u126 u127 u128 u129 u130 u131 u132 u133 u134 u135 u136 u137 u138 u139 u140 u141 u142 u143 u144 u145 u146 u147 u148 u149 u150 u151 u152 u153 u154 u155 u156 u157 u158 u159 u160 u161 u162 u163 u164 u165 u166 u167 u168 u169 u170 u171 u172 u173 u174 u175 u176 u177 u178 u179 u180 u181 u182 u183 u184 u185 u186 u187 u188 u189 u190 u191 u192 u193 u194 u195 u196 u197 u198 u199 u200 u201 u202 u203 u204 u205 u206 u207 u208 u209 u210 u211 u212 u213 u214 u215 u216 u217 u218 u219 u220 u221 u222 u223 u224 u225 u226 u227 u228 u229 u230 u231 u232 u233 u234 u235 u236 u237 u238 u239 u240 u241 u242 u243 : Value) (wx : World), MapEnd S w0 wx (i + 1) u5 u6 u7 → K ⟨#[v0, v1, u2, v3, v4, u5, u6, u7, v8, .pointer (some ⟨C, 0, none⟩), u10, u11, u12, u13, u14, u15, u16, u17, u18, u19, u20, v21, v22, v23, v24, v25, v26, v27, v28, v29, v30, v31, v32, v33, v34, v35, v36, v37, v38, v39, v40, v41, v42, v43, v44, v45, v46, v47, v48, v49, v50, v51, v52, v53, v54, v55, v56, v57, v58, v59, v60, v61, v62, v63, v64, v65, v66, v67, v68, v69, v70, v71, v72, v73, v74, v75, v76, v77, v78, v79, v80, v81, v82, v83, v84, v85, v86, v87, v88, v89, v90, v91, v92, v93, u94, u95, u96, u97, u98, u99, u100, u101, u102, u103, u104, u105, u106, u107, u108, u109, u110, u111, u112, u113, u114, u115, u116, u117, u118, u119, u120, u121, u122, u123, u124, u125, u126, u127, u128, u129, u130, u131, u132, u133, u134, u135, u136, u137, u138, u139, u140, u141, u142, u143, u144, u145, u146, u147, u148, u149, u150, u151, u152, u153, u154, u155, u156, u157, u158, u159, u160, u161, u162, u163, u164, u165, u166, u167, u168, u169, u170, u171, u172, u173, u174, u175, u176, u177, u178, u179, u180, u181, u182, u183, u184, u185, u186, u187, u188, u189, u190, u191, u192, u193, u194, u195, u196, u197, u198, u199, u200, u201, u202, u203, u204, u205, u206, u207, u208, u209, u210, u211, u212, u213, u214, u215, u216, u217, u218, u219, u220, u221, u222, u223, u224, u225, u226, u227, u228, u229, u230, u231, u232, u233, u234, u235, u236, u237, u238, u239, u240, u241, u242, u243], []⟩ wx)) :
    Code.wp Try.prog ((Try.f4.body.bind (seqAt 20)).getD .skip) (Exit.then K fun _ _ _ => False) ⟨#[v0, v1, v2, v3, v4, .slice pa pn pc, .slice ka n kc, .slice va n vc, v8, .pointer (some ⟨C, 0, none⟩), v10, v11, v12, v13, v14, v15, v16, v17, v18, v19, v20, v21, v22, v23, v24, v25, v26, v27, v28, v29, v30, v31, v32, v33, v34, v35, v36, v37, v38, v39, v40, v41, v42, v43, v44, v45, v46, v47, v48, v49, v50, v51, v52, v53, v54, v55, v56, v57, v58, v59, v60, v61, v62, v63, v64, v65, v66, v67, v68, v69, v70, v71, v72, v73, v74, v75, v76, v77, v78, v79, v80, v81, v82, v83, v84, v85, v86, v87, v88, v89, v90, v91, v92, v93, v94, v95, v96, v97, v98, v99, v100, v101, v102, v103, v104, v105, v106, v107, v108, v109, v110, v111, v112, v113, v114, v115, v116, v117, v118, v119, v120, v121, v122, v123, v124, v125, v126, v127, v128, v129, v130, v131, v132, v133, v134, v135, v136, v137, v138, v139, v140, v141, v142, v143, v144, v145, v146, v147, v148, v149, v150, v151, v152, v153, v154, v155, v156, v157, v158, v159, v160, v161, v162, v163, v164, v165, v166, v167, v168, v169, v170, v171, v172, v173, v174, v175, v176, v177, v178, v179, v180, v181, v182, v183, v184, v185, v186, v187, v188, v189, v190, v191, v192, v193, v194, v195, v196, v197, v198, v199, v200, v201, v202, v203, v204, v205, v206, v207, v208, v209, v210, v211, v212, v213, v214, v215, v216, v217, v218, v219, v220, v221, v222, v223, v224, v225, v226, v227, v228, v229, v230, v231, v232, v233, v234, v235, v236, v237, v238, v239, v240, v241, v242, v243], []⟩ W := by
  conv => arg 2; whnf
  have Hn := Lib.hid hn
  have HS0 := Lib.hid hS0
  have HSS := Lib.hid hS
  have Hi := Lib.hid hi
  have hn32 : n ≤ 32 := by rw [hn, ← HI.out.len]; exact HI.out.ok.n
  have HPr : Hid (Prs (fun g => S ≤ g) W (.slice pa pn pc) p0) := by show Prs _ _ _ _; have h := OwnP.prs HM.out.hp; exact h
  have KA : Hid (Calls Try.prog 14 #[.slice pa pn pc, .agg #[.int .i64 c.kind, str c.key, str c.val, .int .i64 0]] W (ApplyPost W p0 c)) := by
    have h := apply_law c _ p0 _ W HPr.out (by have := HI.out.ok.n; omega)
    rw [Hif.out] at h
    exact h
  obtain ⟨k0, k1, k2, k3⟩ := four_cells HC.out
  clear hn hS0 hS hpn hi
  go_wp2_with fail
  refine KA.out.mono ?_
  rintro e W1 hpost
  unfold ApplyPost at hpost
  obtain ⟨Y, hY⟩ := hide (applyK p0 c)
  rw [hY.out] at hpost
  obtain ⟨p, r⟩ := Y
  obtain ⟨av, rkv, rfl, ho1, hk1, hb1⟩ := hpost
  dsimp only at ho1 hk1 ⊢
  obtain ⟨na, nc, rfl⟩ := owns_slice ho1
  obtain ⟨a2, c2, rfl⟩ := owns_slice hk1
  obtain ⟨rk, rs, rv, rks⟩ := r
  dsimp only at hk1 ⊢
  have HM1 : Hid (MapW S W1 (.slice na p.length nc) (.slice ka n kc) (.slice va n vc) p keys vals) := HM.out.next HSS.out hb1 ho1
  obtain ⟨rn, hrn⟩ := hide rks.length
  rw [hrn.out]
  obtain ⟨W2, hW2⟩ := hide (W1.alloc (.cells (rowRes rk rs rv (.slice a2 rn c2)).toArray 26))
  obtain ⟨T, hT⟩ := hide W1.heap.size
  have Hb2 : Hid (Below W.heap.size W W2) := by show Below _ _ _; rw [← hW2.out]; exact hb1.alloc hb1.size _
  have HT2 : Hid (W2.heap[T]? = some (.cells (rowRes rk rs rv (.slice a2 rn c2)).toArray 26 (0, 0))) := by show _ = _; rw [← hW2.out, ← hT.out]; exact hp_at _ _ rfl
  have HM2 : Hid (MapW S W2 (.slice na p.length nc) (.slice ka n kc) (.slice va n vc) p keys vals) := by
    show MapW _ _ _ _ _ _ _ _
    rw [← hW2.out]
    exact HM1.out.below ((Below.refl _ _).alloc (Nat.le_refl _) _)
  have HC2 : Hid (W2.heap[C]? = some (.cells #[.int .i64 c.kind, str c.key, str c.val, .int .i64 0] 30 (0, 0))) := (Hb2.out.block _ (lt_of_block HC.out)).trans HC.out
  have HB2 : Hid (Below w0.heap.size w0 W2) := HB.out.trans (Hb2.out.mono HB.out.size)
  have HS2 : Hid (S ≤ W2.heap.size) := Nat.le_trans HSS.out Hb2.out.size
  clear ho1 hk1 hb1 k0 k1 k2 k3
  obtain ⟨pn2, hpn2⟩ := hide p.length
  rw [hpn2.out] at HM2
  rw [hpn2.out]
  go_upto_region 21 with fail
  rw [hW2.out]
  rw [hT.out]
  obtain ⟨ck, hck⟩ := hide c.key
  go_upto_block 2 with fail
  go_cut [12, 13] from 100 to 113 (fun s12 s13 wx => ∃ atv : Int, s12 = .int .i64 atv ∧ Hid ((atv = -1 ∧ c.key ∉ keys) ∨ ∃ a, ∃ ha : a < keys.length, atv = (a : Int) ∧ keys[a] = c.key) ∧ Hid (Below W2.heap.size W2 wx))
  case first =>
    go_wp2_with fail
    go_loopw [12, 13] (fun s12 s13 wr => ∃ j : Nat, ∃ atv : Int, s13 = .int .i64 j ∧ j ≤ n ∧ s12 = .int .i64 atv ∧ Hid ((atv = -1 ∧ ∀ x (hx : x < keys.length), x < j → keys[x] ≠ c.key) ∨ ∃ a, ∃ ha : a < keys.length, atv = (a : Int) ∧ keys[a] = c.key) ∧ Hid (Below W2.heap.size W2 wr)) (fun _ s13 _ => n - (intOf s13).toNat)
    case atStart => exact ⟨0, -1, rfl, Nat.zero_le _, rfl, Or.inl ⟨rfl, fun x hx h => by omega⟩, Below.refl _ _⟩
    case round =>
      obtain ⟨j, atv, rfl, hj, rfl, hat, hb⟩ := hrel
      by_cases hlt : j < n
      · have hjl : j < keys.length := by rw [← Hn.out]; exact hlt
        have hkx : Txs (fun g => S ≤ g) wr (.slice ka n kc) keys := OwnT.txs (HM2.out.below hb.out).hk
        obtain ⟨gk, ok, rfl, c0⟩ := Sl.txt hkx hjl
        have x0 := cell_n ((hb.out.block _ (lt_of_block HC2.out)).trans HC2.out) 1 (v := str c.key) rfl
        rw [hck.out] at x0
        have hji : (j : Int) < (n : Int) := by omega
        have HE : Hid (keys[j] = ck → ((j : Int) = -1 ∧ ∀ x (hx : x < keys.length), x < j + 1 → keys[x] ≠ c.key) ∨ ∃ a, ∃ ha : a < keys.length, (j : Int) = (a : Int) ∧ keys[a] = c.key) := fun h => Or.inr ⟨j, hjl, rfl, by rw [hck.out]; exact h⟩
        have HN : Hid (keys[j] ≠ ck → (atv = -1 ∧ ∀ x (hx : x < keys.length), x < j + 1 → keys[x] ≠ c.key) ∨ ∃ a, ∃ ha : a < keys.length, atv = (a : Int) ∧ keys[a] = c.key) := fun h => by
          rcases hat.out with ⟨h1, h2⟩ | h1
          · refine Or.inl ⟨h1, fun x hx hxj => ?_⟩
            rcases Nat.lt_or_eq_of_le (Nat.le_of_lt_succ hxj) with h3 | rfl
            · exact h2 x hx h3
            · rw [hck.out]; exact h
          · exact Or.inr h1
        obtain ⟨y, hy⟩ := hide keys[j]
        rw [hy.out] at c0 HE HN
        clear hkx hat
        by_cases he : y = ck
        · have HE2 := Lib.hid (HE.out he)
          have t : (y == ck) = true := beq_iff_eq.2 he
          clear he HE HN
          go_wp2_with (go_quiet (fail))
          go_roundw
          case rel => exact ⟨j + 1, _, by go_num, by omega, rfl, HE2, below_drewN hb.out _⟩
          case measure => simp [intOf]; omega
        · have HE2 := Lib.hid (HN.out he)
          have t : (y == ck) = false := beq_eq_false_iff_ne.2 he
          clear he HE HN
          go_wp2_with (go_quiet (fail))
          go_roundw
          case rel => exact ⟨j + 1, _, by go_num, by omega, rfl, HE2, below_drewN hb.out _⟩
          case measure => simp [intOf]; omega
      · obtain rfl : n = j := by omega
        have HE : Hid ((atv = -1 ∧ c.key ∉ keys) ∨ ∃ a, ∃ ha : a < keys.length, atv = (a : Int) ∧ keys[a] = c.key) := by
          rcases hat.out with ⟨h1, h2⟩ | h1
          · refine Or.inl ⟨h1, fun h => ?_⟩
            obtain ⟨x, hx, hxe⟩ := List.getElem_of_mem h
            exact h2 x hx (by rw [Hn.out]; exact hx) hxe
          · exact Or.inr h1
        clear hat
        go_wp2_with fail
        go_meet
        exact ⟨atv, rfl, HE, hb⟩
  case rest =>
    obtain ⟨atv, rfl, hat, hb⟩ := hcut
    obtain ⟨U, hU⟩ : ∃ Z, Z = wc := ⟨_, rfl⟩
    subst hU
    go_step
    refine piece_seq (piece_m27 S i n C T pn2 nc kc vc w0 U na ka va p0 p keys vals atv c ⟨rk, rs, rv, rks⟩ (.slice a2 rn c2) (HM2.out.below hb.out) HI Hi.out hpn2.out.symm Hn.out HS0.out (Nat.le_trans HS2.out hb.out.size) (HB2.out.trans (hb.out.mono HB2.out.size)) ((hb.out.block _ (lt_of_block HC2.out)).trans HC2.out) ((hb.out.block _ (lt_of_block HT2.out)).trans HT2.out) Hc Hk Hif Hv hY hat.out K ?_) (fun _ _ h => h)
    unfold Hid
    intros
    rename_i hr
    exact HK.out _ _ _ _ _ _ _ _ _ _ _ _ _ _ _ _ _ _ _ _ _ _ _ _ _ _ _ _ _ _ _ _ _ _ _ _ _ _ _ _ _ _ _ _ _ _ _ _ _ _ _ _ _ _ _ _ _ _ _ _ _ _ _ _ _ _ _ _ _ _ _ _ _ _ _ _ _ _ _ _ _ _ _ _ _ _ _ _ _ _ _ _ _ _ _ _ _ _ _ _ _ _ _ _ _ _ _ _ _ _ _ _ _ _ _ _ _ _ _ _ _ _ _ _ _ _ _ _ _ _ _ _ _ _ _ _ _ _ _ _ _ _ _ _ _ _ _ _ _ _ _ _ _ _ _ _ _ _ _ _ _ _ _ _ _ _ hr
end Go.Proofs.Ytfgmpfkbflpiaaa
