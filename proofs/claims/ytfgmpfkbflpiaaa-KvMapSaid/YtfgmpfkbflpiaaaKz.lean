/-
  KvMap: what was there, whether there is room, what is put.
-/
import Derived.Test.YtfgmpfkbflpiaaaKy
namespace Go.Proofs.Ytfgmpfkbflpiaaa
open Go.RowKit Wm Mm Dg Kv
set_option linter.unusedVariables false
set_option linter.unusedSimpArgs false

/-- whether a command puts something -/
def putB (kind : Int) (here : Bool) : Bool := (kind == 1) || ((kind == 5) || ((kind == 4) && !here))
def AtB (keys vals : List (List UInt8)) (key : List UInt8) (atv : Int) (old : List UInt8) (here : Bool) : Prop :=
  (here = false ∧ atv = -1 ∧ old = [] ∧ key ∉ keys) ∨ (here = true ∧ ∃ a, ∃ ha : a < keys.length, atv = (a : Int) ∧ keys[a] = key ∧ old = vals.getD a [])
theorem map_case {p0 p : List PairP} {keys vals : List (List UInt8)} {i : Nat} {c : CmdP} {r : ResP} {atv : Int} {old : List UInt8} {here e1 : Bool} (h : MapInv p0 keys vals i) (hi : i ≤ 1048576) (hc : isCommand c.kind c.key c.val c.iff = true) (hk : c.key ≠ [] ∧ c.key.length ≤ 16) (hif : c.iff = 0) (hap : applyK p0 c = (p, r))
    (hat : AtB keys vals c.key atv old here) (he : (putB c.kind here && ((here || decide (keys.length < 32)) && decide ((putV c.kind old c.val).length ≤ 64))) = e1) :
    (e1 = true ∧ r.kind = 1 ∧ c.kind ≠ 3 ∧ ((atv = -1 ∧ MapInv p (keys ++ [c.key]) (vals ++ [putV c.kind old c.val]) (i + 1)) ∨ ∃ a : Nat, a < keys.length ∧ atv = (a : Int) ∧ MapInv p keys (vals.set a (putV c.kind old c.val)) (i + 1))) ∨
      (e1 = false ∧ ((c.kind = 3 ∧ r.kind = 1 ∧ ∃ a : Nat, a < keys.length ∧ atv = (a : Int) ∧ MapInv p (keys.eraseIdx a) (vals.eraseIdx a) (i + 1)) ∨ ((c.kind ≠ 3 ∨ atv = -1) ∧ MapInv p keys vals (i + 1)))) := by
  have hpb : putB c.kind here = true ↔ (c.kind = 1 ∨ c.kind = 5 ∨ (c.kind = 4 ∧ here = false)) := by
    unfold putB
    simp only [Bool.or_eq_true, Bool.and_eq_true, beq_iff_eq, Bool.not_eq_true']
  have hrb : (here || decide (keys.length < 32)) = true ↔ (here = true ∨ keys.length < 32) := by
    simp only [Bool.or_eq_true, decide_eq_true_eq]
  cases e1
  · refine Or.inr ⟨rfl, ?_⟩
    have hno : ((c.kind = 1 ∨ c.kind = 5 ∨ (c.kind = 4 ∧ here = false)) → (here = true ∨ keys.length < 32) → ¬ (putV c.kind old c.val).length ≤ 64) := fun h1 h2 h3 => by
      rw [hpb.2 h1, hrb.2 h2, decide_eq_true h3] at he
      cases he
    by_cases hd : c.kind = 3 ∧ here = true
    · rcases hat with ⟨h1, _⟩ | ⟨_, a, ha, h2, h3, h4⟩
      · rw [h1] at hd; cases hd.2
      · obtain ⟨p', r', h5, h6, h7⟩ := map_del h hc ha h3 hd.1
        rw [hap] at h5
        injection h5 with g1 g2
        subst g1 g2
        exact Or.inl ⟨hd.1, h6, a, ha, h2, h7⟩
    · have hat' : (here = false ∧ old = [] ∧ c.key ∉ keys) ∨ (here = true ∧ ∃ a, ∃ ha : a < keys.length, keys[a] = c.key ∧ old = vals.getD a []) := by
        rcases hat with ⟨h1, _, h2, h3⟩ | ⟨h1, a, ha, _, h3, h4⟩
        · exact Or.inl ⟨h1, h2, h3⟩
        · exact Or.inr ⟨h1, a, ha, h3, h4⟩
      obtain ⟨r', h5, h7⟩ := map_same h hc hif old here hat' hno hd
      rw [hap] at h5
      injection h5 with g1 g2
      subst g1
      refine Or.inr ⟨?_, h7⟩
      rcases hat with ⟨_, h1, _⟩ | ⟨h1, _⟩
      · exact Or.inr h1
      · exact Or.inl (fun e => hd ⟨e, h1⟩)
  · refine Or.inl ⟨rfl, ?_⟩
    rw [Bool.and_eq_true, Bool.and_eq_true, decide_eq_true_eq] at he
    obtain ⟨h1, h2, h3⟩ := he
    have h1 := hpb.1 h1
    have h2 := hrb.1 h2
    rcases hat with ⟨g1, g2, g3, g4⟩ | ⟨g1, a, ha, g2, g3, g4⟩
    · subst g1 g3
      have hp3 : c.kind = 1 ∨ c.kind = 5 ∨ c.kind = 4 := by
        rcases h1 with h | h | h
        · exact Or.inl h
        · exact Or.inr (Or.inl h)
        · exact Or.inr (Or.inr h.1)
      obtain ⟨p', h5, h7⟩ := map_new h hc hk g4 hp3 hif (by rcases h2 with h | h; cases h; exact h) h3
      rw [hap] at h5
      injection h5 with e1 e2
      subst e1 e2
      exact ⟨rfl, by rcases hp3 with h | h | h <;> omega, Or.inl ⟨g2, h7⟩⟩
    · subst g1 g4
      have hp2 : c.kind = 1 ∨ c.kind = 5 := by
        rcases h1 with h | h | h
        · exact Or.inl h
        · exact Or.inr h
        · cases h.2
      obtain ⟨p', r', h5, h6, h7⟩ := map_old h hi hc hk ha g3 hp2 h3
      rw [hap] at h5
      injection h5 with e1 e2
      subst e1 e2
      exact ⟨h6, by rcases hp2 with h | h <;> omega, Or.inr ⟨a, ha, g2, h7⟩⟩
set_option maxHeartbeats 4000000 in
set_option maxRecDepth 100000 in
theorem piece_m27 {v0 v1 v2 v3 v4 v5 v8 v13 v14 v15 v16 v17 v18 v19 v20 v21 v22 v23 v24 v25 v26 v27 v28 v29 v30 v31 v32 v33 v34 v35 v36 v37 v38 v39 v40 v41 v42 v43 v44 v45 v46 v47 v48 v49 v50 v51 v52 v53 v54 v55 v56 v57 v58 v59 v60 v61 v62 v63 v64 v65 v66 v67 v68 v69 v70 v71 v72 v73 v74 v75 v76 v77 v78 v79 v80 v81 v82 v83 v84 v85 v86 v87 v88 v89 v90 v91 v92 v93 v94 v95 v96 v97 v98 v99 v100 v101 v102 v103 v104 v105 v106 v107 v108 v109 v110 v111 v112 v113 v114 v115 v116 v117 v118 v119 v120 v121 v122 v123 v124 v125 v126 v127 v128 v129 v130 v131 v132 v133 v134 v135 v136 v137 v138 v139 v140 v141 v142 v143 v144 v145 v146 v147 v148 v149 v150 v151 v152 v153 v154 v155 v156 v157 v158 v159 v160 v161 v162 v163 v164 v165 v166 v167 v168 v169 v170 v171 v172 v173 v174 v175 v176 v177 v178 v179 v180 v181 v182 v183 v184 v185 v186 v187 v188 v189 v190 v191 v192 v193 v194 v195 v196 v197 v198 v199 v200 v201 v202 v203 v204 v205 v206 v207 v208 v209 v210 v211 v212 v213 v214 v215 v216 v217 v218 v219 v220 v221 v222 v223 v224 v225 v226 v227 v228 v229 v230 v231 v232 v233 v234 v235 v236 v237 v238 v239 v240 v241 v242 v243 : Value} (S i n C T pn nc kc vc : Nat) (w0 W : World) (na ka va : Option Addr) (p0 p : List PairP) (keys vals : List (List UInt8)) (atv : Int) (c : CmdP) (r : ResP) (rkv : Value)
    (HM : Hid (MapW S W (.slice na pn nc) (.slice ka n kc) (.slice va n vc) p keys vals)) (HI : Hid (MapInv p0 keys vals i)) (hi : i ≤ 1048576) (hpn : pn = p.length) (hn : n = keys.length) (hS0 : w0.heap.size ≤ S) (hS : S ≤ W.heap.size) (HB : Hid (Below w0.heap.size w0 W))
    (HC : Hid (W.heap[C]? = some (.cells #[.int .i64 c.kind, str c.key, str c.val, .int .i64 0] 30 (0, 0)))) (HT : Hid (W.heap[T]? = some (.cells (rowRes r.kind r.val r.ver rkv).toArray 26 (0, 0))))
    (Hc : Hid (isCommand c.kind c.key c.val c.iff = true)) (Hk : Hid (c.key ≠ [] ∧ c.key.length ≤ 16)) (Hif : Hid (c.iff = 0)) (Hv : Hid (c.val.length ≤ 64)) (Hap : Hid (applyK p0 c = (p, r)))
    (hat : (atv = -1 ∧ c.key ∉ keys) ∨ ∃ a, ∃ ha : a < keys.length, atv = (a : Int) ∧ keys[a] = c.key)
    (K : Act → World → Prop)
    (HK : Hid (∀ (u2 u5 u6 u7 u12 u14 u15 u16 u17 u18 u19 u20 u114 u115 u116 u117 u118 u119 u120 u121 u122 u123 u124 u125 u126 u127 u128 u129 u130 u131 u132 u133 u134 u135 u136 u137 u138 u139 u140 u141 u142 u143 u144 u145 u146 u147 u148 u149 u150 u151 u152 u153 u154 u155 u156 u157 u158 u159 u160 u161 u162 u163 u164 u165 u166 u167 u168 u169 u170 u171 u172 u173 u174 u175 u176 u177 u178 u179 u180 u181 u182 u183 u184 u185 u186 u187 u188 u189 u190 u191 u192 u193 u194 u195 u196 u197 u198 u199 u200 u201 u202 u203 u204 u205 u206 u207 u208 u209 u210 u211 u212 u213 u214 u215 u216 u217 u218 u219 u220 u221 u222 u223 u224 u225 u226 u227 u228 u229 u230 u231 u232 u233 u234 u235 u236 u237 u238 u239 u240 u241 u242 u243 : Value) (wx : World), MapEnd S w0 wx (i + 1) u5 u6 u7 → K ⟨#[v0, v1, u2, v3, v4, u5, u6, u7, v8, .pointer (some ⟨C, 0, none⟩), .slice na pn nc, .pointer (some ⟨T, 0, none⟩), u12, v13, u14, u15, u16, u17, u18, u19, u20, v21, v22, v23, v24, v25, v26, v27, v28, v29, v30, v31, v32, v33, v34, v35, v36, v37, v38, v39, v40, v41, v42, v43, v44, v45, v46, v47, v48, v49, v50, v51, v52, v53, v54, v55, v56, v57, v58, v59, v60, v61, v62, v63, v64, v65, v66, v67, v68, v69, v70, v71, v72, v73, v74, v75, v76, v77, v78, v79, v80, v81, v82, v83, v84, v85, v86, v87, v88, v89, v90, v91, v92, v93, v94, v95, v96, v97, v98, v99, v100, v101, v102, v103, v104, v105, v106, v107, v108, v109, v110, v111, v112, v113, u114, u115, u116, u117, u118, u119, u120, u121, u122, u123, u124, u125, u126, u127, u128, u129, u130, u131, u132, u133, u134, u135, u136, u137, u138, u139, u140, u141, u142, u143, u144, u145, u146, u147, u148, u149, u150, u151, u152, u153, u154, u155, u156, u157, u158, u159, u160, u161, u162, u163, u164, u165, u166, u167, u168, u169, u170, u171, u172, u173, u174, u175, u176, u177, u178, u179, u180, u181, u182, u183, u184, u185, u186, u187, u188, u189, u190, u191, u192, u193, u194, u195, u196, u197, u198, u199, u200, u201, u202, u203, u204, u205, u206, u207, u208, u209, u210, u211, u212, u213, u214, u215, u216, u217, u218, u219, u220, u221, u222, u223, u224, u225, u226, u227, u228, u229, u230, u231, u232, u233, u234, u235, u236, u237, u238, u239, u240, u241, u242, u243], []⟩ wx)) :
    Code.wp Try.prog ((Try.f4.body.bind (seqAt 27)).getD .skip) (Exit.then K fun _ _ _ => False) ⟨#[v0, v1, v2, v3, v4, v5, .slice ka n kc, .slice va n vc, v8, .pointer (some ⟨C, 0, none⟩), .slice na pn nc, .pointer (some ⟨T, 0, none⟩), .int .i64 atv, v13, v14, v15, v16, v17, v18, v19, v20, v21, v22, v23, v24, v25, v26, v27, v28, v29, v30, v31, v32, v33, v34, v35, v36, v37, v38, v39, v40, v41, v42, v43, v44, v45, v46, v47, v48, v49, v50, v51, v52, v53, v54, v55, v56, v57, v58, v59, v60, v61, v62, v63, v64, v65, v66, v67, v68, v69, v70, v71, v72, v73, v74, v75, v76, v77, v78, v79, v80, v81, v82, v83, v84, v85, v86, v87, v88, v89, v90, v91, v92, v93, v94, v95, v96, v97, v98, v99, v100, v101, v102, v103, v104, v105, v106, v107, v108, v109, v110, v111, v112, v113, v114, v115, v116, v117, v118, v119, v120, v121, v122, v123, v124, v125, v126, v127, v128, v129, v130, v131, v132, v133, v134, v135, v136, v137, v138, v139, v140, v141, v142, v143, v144, v145, v146, v147, v148, v149, v150, v151, v152, v153, v154, v155, v156, v157, v158, v159, v160, v161, v162, v163, v164, v165, v166, v167, v168, v169, v170, v171, v172, v173, v174, v175, v176, v177, v178, v179, v180, v181, v182, v183, v184, v185, v186, v187, v188, v189, v190, v191, v192, v193, v194, v195, v196, v197, v198, v199, v200, v201, v202, v203, v204, v205, v206, v207, v208, v209, v210, v211, v212, v213, v214, v215, v216, v217, v218, v219, v220, v221, v222, v223, v224, v225, v226, v227, v228, v229, v230, v231, v232, v233, v234, v235, v236, v237, v238, v239, v240, v241, v242, v243], []⟩ W := by
  conv => arg 2; whnf
  have Hn := Lib.hid hn
  have Hpn := Lib.hid hpn
  have HS0 := Lib.hid hS0
  have HSS := Lib.hid hS
  have hvl : vals.length = n := by rw [hn]; exact HI.out.vlen
  have Hvl := Lib.hid hvl
  have hn32 : n ≤ 32 := by rw [hn, ← HI.out.len]; exact HI.out.ok.n
  have hab : ∃ old here, Hid (AtB keys vals c.key atv old here) := by
    rcases hat with ⟨h1, h2⟩ | ⟨a, ha, h1, h2⟩
    · exact ⟨[], false, Or.inl ⟨rfl, h1, rfl, h2⟩⟩
    · exact ⟨vals.getD a [], true, Or.inr ⟨rfl, a, ha, h1, h2, rfl⟩⟩
  obtain ⟨old, here, Hat⟩ := hab
  have Hold : Hid (old.length ≤ 64) := by
    show _ ≤ _
    rcases Hat.out with ⟨_, _, h, _⟩ | ⟨_, a, ha, _, h2, h3⟩
    · rw [h]; decide
    · obtain ⟨g1, g2, _, _⟩ := HI.out.some ha
      rw [h3, ← g2]
      exact HI.out.ok.val _ (oldK_at g1).1
  obtain ⟨kd, hkd⟩ := hide c.kind
  obtain ⟨v, hv⟩ := hide (putV kd old c.val)
  obtain ⟨room, hroom⟩ := hide (here || decide (n < 32))
  obtain ⟨put, hput⟩ := hide (putB kd here)
  obtain ⟨e1, he1⟩ := hide (put && (room && decide (v.length ≤ 64)))
  have Hcase := Lib.hid (map_case (e1 := e1) HI.out hi Hc.out Hk.out Hif.out Hap.out Hat.out (by rw [hkd.out, hv.out, hput.out, ← hn, hroom.out]; exact he1.out))
  rw [hkd.out] at HC Hcase
  obtain ⟨rk, hrk⟩ := hide r.kind
  rw [hrk.out] at HT Hcase
  rw [hv.out] at Hcase
  have k0 := cell_n HC.out 0 (v := .int .i64 kd) rfl
  have k2 := cell_n HC.out 2 (v := str c.val) rfl
  clear hn hpn hS0 hS hvl hat hi
  go_upto_region 27 with fail
  try dsimp only
  go_upto_if 115 with fail
  go_cut [14] from 116 to 119 (fun s wx => s = str old ∧ wx = W)
  case first =>
    rcases Hat.out with ⟨h1, h2, h3, h4⟩ | ⟨h1, a, ha, h2, h3, h4⟩
    · subst h2 h3
      clear h4 h1
      go_wp2_with fail
      go_meet
      exact ⟨rfl, rfl⟩
    · subst h2
      have han : a < n := by rw [Hn.out]; exact ha
      have hav : a < vals.length := by rw [Hvl.out]; exact han
      have hold : old = vals[a] := by rw [h4, List.getD_eq_getElem?_getD, List.getElem?_eq_getElem hav]; rfl
      have HVr : Hid (W.ownsRow S 9 1 (.slice va n vc) n (vals.flatMap rowText)) := by show World.ownsRow _ _ _ _ _ _ _; have h := HM.out.hv; rw [OwnT, Hvl.out] at h; exact h
      obtain ⟨g, rfl⟩ := own_some HVr.out (by omega)
      have y0 := own_cell HVr.out (flat_at vals a hav)
      rw [← hold] at y0
      have q1 : (a : Int) < (n : Int) := by omega
      have q2 : decide (0 ≤ (a : Int)) = true := decide_eq_true (by omega)
      clear h1 h3 h4 hold
      go_wp2_with fail
      go_meet
      exact ⟨rfl, rfl⟩
  case rest =>
    obtain ⟨rfl, hWc⟩ := hcut
    obtain ⟨Z, hZ⟩ : ∃ Z, Z = wc := ⟨_, rfl⟩
    subst hZ
    subst hWc
    go_upto_region 30 with fail
    go_cut [15] from 120 to 126 (fun s wx => s = .bool room ∧ wx = Z)
    case first =>
      have hr := hroom.out
      rcases Hat.out with ⟨h1, h2, h3, h4⟩ | ⟨h1, a, ha, h2, h3, h4⟩
      · subst h2
        rw [h1, Bool.false_or] at hr
        clear h1 h3 h4
        cases room
        · have q1 : ¬ n < 32 := of_decide_eq_false hr
          have q2 : decide ((n : Int) < 32) = false := decide_eq_false (by omega)
          clear hr
          go_wp2_with fail
          go_meet
          exact ⟨rfl, rfl⟩
        · have q1 : n < 32 := of_decide_eq_true hr
          have q2 : decide ((n : Int) < 32) = true := decide_eq_true (by omega)
          clear hr
          go_wp2_with fail
          go_meet
          exact ⟨rfl, rfl⟩
      · subst h2
        have q2 : decide (0 ≤ (a : Int)) = true := decide_eq_true (by omega)
        rw [h1, Bool.true_or] at hr
        clear h1 h3 h4
        subst hr
        go_wp2_with fail
        go_meet
        exact ⟨rfl, rfl⟩
    case rest =>
      obtain ⟨rfl, hWc⟩ := hcut
      obtain ⟨Y, hY⟩ : ∃ Z, Z = wc := ⟨_, rfl⟩
      subst hY
      subst hWc
      go_upto_region 31 with fail
      go_cut [16] from 127 to 143 (fun s wx => s = .bool put ∧ wx = Y)
      case first =>
        have hp := hput.out
        unfold putB at hp
        obtain ⟨b1, hb1⟩ : ∃ b, (kd == 1) = b := ⟨_, rfl⟩
        obtain ⟨b5, hb5⟩ : ∃ b, (kd == 5) = b := ⟨_, rfl⟩
        obtain ⟨b4, hb4⟩ : ∃ b, (kd == 4) = b := ⟨_, rfl⟩
        rw [hb1, hb5, hb4] at hp
        have hat0 : decide (atv < 0) = !here := by
          rcases Hat.out with ⟨h1, h2, _⟩ | ⟨h1, a, _, h2, _⟩
          · rw [h1, h2]; rfl
          · rw [h1, h2]; exact decide_eq_false (by omega)
        cases b1
        · cases b5
          · cases b4
            · have hp2 : put = false := hp.symm
              subst hp2
              clear hp hat0
              go_wp2_with fail
              go_meet
              exact ⟨rfl, rfl⟩
            · have hp2 : put = !here := hp.symm
              subst hp2
              clear hp
              cases here
              all_goals
                go_wp2_with fail
                go_meet
                first | exact ⟨rfl, rfl⟩ | exact ⟨by simp, rfl⟩
          · have hp2 : put = true := hp.symm
            subst hp2
            clear hp hat0
            go_wp2_with fail
            go_meet
            exact ⟨rfl, rfl⟩
        · have hp2 : put = true := hp.symm
          subst hp2
          clear hp hat0
          go_wp2_with fail
          go_meet
          exact ⟨rfl, rfl⟩
      case rest =>
        obtain ⟨rfl, hWc⟩ := hcut
        obtain ⟨X, hX⟩ : ∃ Z, Z = wc := ⟨_, rfl⟩
        subst hX
        subst hWc
        obtain ⟨b5, hb5⟩ : ∃ b, (kd == 5) = b := ⟨_, rfl⟩
        go_upto_if 148 with fail
        go_cut [17] from 149 to 152 (fun s wx => s = str v ∧ wx = X)
        case first =>
          have hv2 := hv.out
          unfold putV at hv2
          by_cases h5 : kd = 5
          · rw [if_pos h5] at hv2
            have t5 : b5 = true := by rw [← hb5]; exact beq_iff_eq.2 h5
            have q1 : ¬ 9223372036854775807 < old.length + c.val.length := by have := Hold.out; have := Hv.out; omega
            clear h5
            subst t5
            subst hv2
            go_wp2_with fail
            go_meet
            exact ⟨rfl, rfl⟩
          · rw [if_neg h5] at hv2
            have t5 : b5 = false := by rw [← hb5]; exact beq_eq_false_iff_ne.2 h5
            clear h5
            subst t5
            subst hv2
            go_wp2_with fail
            go_meet
            exact ⟨rfl, rfl⟩
        case rest =>
          obtain ⟨rfl, hWc⟩ := hcut
          obtain ⟨U, hU⟩ : ∃ Z, Z = wc := ⟨_, rfl⟩
          subst hU
          subst hWc
          go_step
          have hc2 := Hcase.out
          rw [← Hn.out] at hc2
          refine piece_seq (piece_m35 S i n C T pn nc kc vc w0 U na ka va p keys vals atv rk r.ver kd c.key c.val r.val v rkv room put e1 HM Hpn.out Hn.out Hvl.out.symm hn32 HS0.out HSS.out HB HC HT he1.out hc2 K ?_) (fun _ _ h => h)
          unfold Hid
          intros
          rename_i hr
          exact HK.out _ _ _ _ _ _ _ _ _ _ _ _ _ _ _ _ _ _ _ _ _ _ _ _ _ _ _ _ _ _ _ _ _ _ _ _ _ _ _ _ _ _ _ _ _ _ _ _ _ _ _ _ _ _ _ _ _ _ _ _ _ _ _ _ _ _ _ _ _ _ _ _ _ _ _ _ _ _ _ _ _ _ _ _ _ _ _ _ _ _ _ _ _ _ _ _ _ _ _ _ _ _ _ _ _ _ _ _ _ _ _ _ _ _ _ _ _ _ _ _ _ _ _ _ _ _ _ _ _ _ _ _ _ _ _ _ _ _ _ _ _ _ _ hr
end Go.Proofs.Ytfgmpfkbflpiaaa
