/-
  ClientOnce: what is asked is checked: one piece of the law's round.
-/
import Derived.Test.YtckclacdmpcpbaaZe
import Derived.Test.YtckclacdmpcpbaaPce
namespace Go.Proofs.Ytckclacdmpcpbaa
open Go.RowKit Wm Mm Clt
set_option linter.unusedVariables false
set_option linter.unusedSimpArgs false

set_option maxRecDepth 100000 in
theorem pickC_law (c : Int) (n : Nat) (w : World) (hn : 0 < n) (hn2 : n ≤ 4294967296) (hc : -9223372036854775808 ≤ c ∧ c ≤ 9223372036854775807) : Calls Try.prog 31 #[.int .i64 c, .int .i64 n] w fun e w' => e = .returned (.int .i64 (c % (n : Int))) ∧ w = w' := by
  have hn0 : ((n : Int) == 0) = false := beq_eq_false_iff_ne.2 (by omega)
  have h1 := Int.emod_nonneg c (show (n : Int) ≠ 0 by omega)
  have h2 := Int.emod_lt_of_pos c (show 0 < (n : Int) by omega)
  obtain ⟨r, hr⟩ := hide (c.tmod (n : Int))
  have hrw : c.tmod (n : Int) = r := hr.out
  have hrb : -(n : Int) < r ∧ r < (n : Int) := by
    rw [← hr.out]
    exact ⟨by have := Int.lt_tmod_of_pos c (show 0 < (n : Int) by omega); omega, Int.tmod_lt_of_pos c (show 0 < (n : Int) by omega)⟩
  have hem : c % (n : Int) = if r < 0 then r + n else r := by
    have hd : (n : Int) ∣ (c - r) := by rw [← hr.out]; exact ⟨c.tdiv n, by have := Int.mul_tdiv_add_tmod c n; omega⟩
    obtain ⟨k, hk⟩ := hd
    have hcr : c = r + n * k := by omega
    have hm : c % (n : Int) = r % n := by rw [hcr, Int.add_mul_emod_self_left]
    rw [hm]
    split
    · rw [← Int.add_emod_right, Int.emod_eq_of_lt (by omega) (by omega)]
    · exact Int.emod_eq_of_lt (by omega) (by omega)
  rw [hem]
  clear h1 h2 hem
  by_cases hneg : r < 0
  · have q : decide (r < 0) = true := decide_eq_true hneg
    rw [if_pos hneg]
    go_enter Try.func31, Try.ntmps31
    go_wp2_with fail
    go_ret
    exact ⟨rfl, rfl⟩
  · have q : decide (r < 0) = false := decide_eq_false hneg
    rw [if_neg hneg]
    go_enter Try.func31, Try.ntmps31
    go_wp2_with fail
    go_ret
    exact ⟨rfl, rfl⟩

theorem toStr1c (x : Int) (w : World) : (convert 70 9 (.slice (some ⟨w.heap.size, 0, none⟩) 1 1)).run Try.prog (w.alloc (.cells #[.int .u8 x] 5)) =
    .ok (str [UInt8.ofNat x.toNat]) (w.alloc (.cells #[.int .u8 x] 5)) :=
  run_toStr_new w _ _ _ 1 1 [x] rfl Try.underlying70 Try.underlying5 Try.underlying9
structure AnsP where
  tok : Int
  err : Int
  kind : Int
  val : List UInt8
  ver : Int
  keys : List (List UInt8)
def RAns : Rep AnsP := fun F w vs y => ∃ kv, vs = [.int .i64 y.tok, .int .i64 y.err, .int .i64 y.kind, str y.val, .int .i64 y.ver, kv] ∧ Sl 1 (Plain rowT) F w kv y.keys
theorem RAns.good : Rep.Good RAns :=
  ⟨fun h ha => by obtain ⟨kv, h1, h2⟩ := h; exact ⟨kv, h1, h2.frame (Plain.good _) ha⟩, fun h hs => by obtain ⟨kv, h1, h2⟩ := h; exact ⟨kv, h1, h2.weak (Plain.good _) hs⟩⟩
def i64c (n : Int) : Prop := -9223372036854775808 ≤ n ∧ n ≤ 9223372036854775807
/-- how things stand in the law -/
structure Cl0 (w0 w : World) (C A : Nat) (c : CliP) (asked : CmdC) : Prop where
  x : CliX w C c
  a : w.heap[A]? = some (blkCmd asked)
  lowC : w0.heap.size ≤ C
  lowA : w0.heap.size ≤ A
  bel : Below w0.heap.size w0 w
theorem Cl0.new {w0 w w' : World} {C A : Nat} {c : CliP} {asked : CmdC} (h : Cl0 w0 w C A c asked) (hb : Below w.heap.size w w') : Cl0 w0 w' C A c asked :=
  ⟨h.x.new hb, (hb.block A (lt_of_block h.a)).trans h.a, h.lowC, h.lowA, h.bel.trans (hb.mono h.bel.size)⟩
theorem Cl0.ne {w0 w : World} {C A : Nat} {c : CliP} {asked : CmdC} (h : Cl0 w0 w C A c asked) : A ≠ C := by
  obtain ⟨g, cap, wv, rv, hB, _⟩ := h.x.ex
  exact notC hB h.a (by decide)
theorem Cl0.call {w0 w w' : World} {C A : Nat} {c c' : CliP} {asked : CmdC} (h : Cl0 w0 w C A c asked) (hx : CliX w' C c') (hc : Chg (OnlyC C) w w') : Cl0 w0 w' C A c' asked :=
  ⟨hx, hc.at h.a (fun e => h.ne e), h.lowC, h.lowA, h.bel.trans (hc.toBelow (fun k e => by have e' : k = C := e; rw [e']; exact h.lowC) h.bel.size)⟩
theorem Cl0.putA {w0 w : World} {C A : Nat} {c : CliP} {asked y : CmdC} (h : Cl0 w0 w C A c asked) (hw : c.want = some y) : Cl0 w0 (setAll w A (rowCmd y)) C A c y := by
  have hA2 : (setAll w A (rowCmd y)).heap[A]? = some (blkCmd y) := setAll_at (xs := rowCmd asked) h.a _ rfl
  have hc : Chg (fun j => j = A) w (setAll w A (rowCmd y)) := setFrom_chg A _ w 0
  have hb : Below w0.heap.size w0 (setAll w A (rowCmd y)) := h.bel.trans (hc.toBelow (fun k e => by rw [e]; exact h.lowA) h.bel.size)
  obtain ⟨g, cap, wv, rv, k1, k2, k3, k4⟩ := h.x.ex
  have hne : ∀ {b : Nat} {ds : Array Value} {u : TypeId}, w.heap[b]? = some (.cells ds u (0, 0)) → u ≠ 69 → b ≠ A := fun h1 h2 e => by
    subst e
    have h3 := h.a
    rw [h1] at h3
    injection h3 with h3
    injection h3 with _ h4 _
    exact h2 h4
  refine ⟨⟨g, cap, wv, rv, hc.at k1 (hne k1 (by decide)), own_chg k2 hc (fun j hj e => ?_), ?_, ?_⟩, hA2, h.lowC, h.lowA, hb⟩
  · rcases k2.2 with ⟨hv0, _⟩ | ⟨g', cap', cur, hv0, _, hg', _⟩
    · cases hv0
    · have e2 : g' = j := by rw [hv0] at hj; simpa [Value.ownBlock] using hj
      subst e2
      exact hne hg' (by decide) e
  · rw [hw] at k3 ⊢
    obtain ⟨b, h1, h2⟩ := k3
    refine ⟨b, h1, ?_⟩
    by_cases hbA : b = A
    · rw [hbA]; exact hA2
    · exact hc.at h2 hbA
  · revert k4
    cases c.res with
    | false => exact fun h => h
    | true => exact fun ⟨b, k, s, n, a, l, cp, h1, h2⟩ => ⟨b, k, s, n, a, l, cp, h1, hc.at h2 (hne h2 (by decide))⟩
theorem lookField (a b c : Int) (wt bs : Bool) (w : World) : (Instr.field 72 (.agg #[.int .i64 a, .int .i64 b, .int .i64 c, .bool wt, .bool bs]) 4).run Try.prog w = .ok (.bool bs) w := by kernel_rfl
abbrev rowLook (s n p : Int) (wt bs : Bool) : List Value := [.int .i64 s, .int .i64 n, .int .i64 p, .bool wt, .bool bs]
theorem next_no {c : CliP} (h : (nextC c).2 = false) : (nextC c).1 = c := by
  unfold nextC at h ⊢
  split at h
  · next hc => rw [if_pos hc]
  · cases h
theorem want_last (c : CliP) (x : CmdC) : (wantC c x).1.last = c.last := by
  unfold wantC
  split <;> rfl
theorem next_want (c : CliP) : (nextC c).1.want = c.want := by
  unfold nextC
  split <;> rfl
/-- what is asked, against what the law has seen -/
theorem ask_ways {c : CliP} {s n : Nat} {asked : CmdC} (h : Sees c s n asked) (hi : (nextC c).2 = true) :
    ∃ y, c.want = some y ∧ (nextC c).1.last = c.last + 1 ∧ (askC c).id = c.last + 1 ∧ (askC c).node = c.pos + 1 ∧
      (((askC c).cl = 0 ∧ (askC c).num = 0 ∧ (askC c).cmd = zeroCmd ∧ seenS c s = s ∧ seenN c n = n ∧ seenA c asked = asked) ∨
       ((askC c).cl ≠ 0 ∧ (askC c).cmd = y ∧ seenS c s = (askC c).cl ∧ seenN c n = (askC c).num ∧ seenA c asked = y ∧
        (((askC c).cl = s ∧ (askC c).num = n + 1) ∨ ((askC c).cl = s ∧ (askC c).num = n ∧ y = asked) ∨ (s = 0 ∧ (askC c).num = 1)))) := by
  have e : askC c = ⟨c.last + 1, c.pos + 1, if c.session = 0 then 0 else c.session, if c.session = 0 then 0 else c.number + 1, if c.session = 0 then zeroCmd else c.want.getD zeroCmd⟩ := by
    unfold askC; rw [if_pos hi]
  have hl : (nextC c).1.last = c.last + 1 := by
    unfold nextC at hi ⊢
    split at hi
    · cases hi
    · next hn => rw [if_neg hn]
  have hw : ∃ y, c.want = some y := by
    unfold nextC at hi
    split at hi
    · cases hi
    · next hn =>
      cases hq : c.want with
      | none => rw [hq] at hn; simp at hn
      | some q => exact ⟨q, rfl⟩
  obtain ⟨y, hy⟩ := hw
  refine ⟨y, hy, hl, by rw [e], by rw [e], ?_⟩
  unfold seenS seenN seenA
  by_cases hs : c.session = 0
  · left
    rw [e]
    simp [hs]
  · right
    rw [e]
    simp only [if_neg hs, hy, Option.getD_some]
    refine ⟨hs, trivial, trivial, trivial, trivial, ?_⟩
    by_cases h0 : s = 0
    · right; right
      exact ⟨h0, by rw [(h.z h0).1]⟩
    · obtain ⟨h1, h2⟩ := h.nz h0
      rcases h2 with ⟨h3, _⟩ | ⟨h3, h4⟩
      · left; exact ⟨h1.symm, by omega⟩
      · right; left
        rw [hy] at h4
        injection h4 with h4
        exact ⟨h1.symm, by omega, h4⟩

set_option maxHeartbeats 4000000 in
set_option maxRecDepth 100000 in
theorem piece_ask {v0 v2 v3 v4 v6 v8 v14 v15 v16 v17 v20 v21 v22 v23 v24 v25 v26 v27 v28 v29 v30 v31 v32 v33 v34 v35 v36 v37 v38 v39 v40 v41 v42 v43 v44 v45 v46 v47 v48 v49 v50 v51 v52 v53 v54 v55 v56 v57 v58 v59 v60 v61 v62 v63 v64 v65 v66 v67 v68 v69 v70 v71 v72 v73 v74 v75 v76 v77 v78 v79 v80 v81 v82 v83 v84 v85 v86 v87 v88 v89 v90 v91 v93 v94 v95 v96 v97 v98 v99 v100 v101 v102 v103 v104 v105 v106 v107 v108 v109 v110 v111 v112 v113 v114 v115 v116 v117 v118 v119 v120 v121 v122 v123 v124 v125 v126 v127 v128 v129 v130 v131 v132 v133 v134 v135 v136 v137 v138 v139 v140 v141 v142 v143 v144 v145 v146 v147 v148 v149 v150 v151 v152 v153 v154 v155 v156 v157 v158 v159 v160 v161 v162 v163 v164 v165 v166 v167 v168 v169 v170 v171 v172 v173 v174 v175 v176 v177 v178 v179 v180 v181 v182 v183 v184 v185 v186 v187 v188 v189 v190 v191 v192 v193 v194 v195 v196 v197 v198 v199 v200 v201 v202 v203 v204 v205 v206 v207 v208 v209 v210 v211 v212 v213 v214 v215 v216 v217 v218 v219 v220 v221 v222 v223 v224 v225 v226 v227 v228 v229 v230 v231 v232 v233 v234 v235 v236 v237 v238 v239 v240 v241 v242 v243 v244 v245 v246 v247 v248 v249 v250 v251 v252 v253 v254 v255 v256 v257 v258 v259 v260 v261 v262 v263 v264 v265 v266 v267 v268 : Value} (sa a : Option Addr) (n sc k c C s nn A last i T18 : Nat) (w0 W6 : World) (ak : AskC) (y asked : CmdC) (c2 : CliP) (s2 n2 : Nat) (asked2 : CmdC)
    (HS6 : Hid (Cl0 w0 W6 C A c2 asked)) (HT18 : Hid (W6.heap[T18]? = some (.cells (rowA ak).toArray 78 (0, 0)))) (hw2 : c2.want = some y)
    (hid : ak.id = last + 1) (hn1 : 1 ≤ ak.node) (hn2 : ak.node ≤ k) (hlb : last ≤ 65536) (hnb : nn ≤ 65537)
    (hway : (ak.cl = 0 ∧ ak.num = 0 ∧ ak.cmd = zeroCmd ∧ s = s2 ∧ nn = n2 ∧ asked = asked2) ∨
       (ak.cl ≠ 0 ∧ ak.cmd = y ∧ ak.cl = s2 ∧ ak.num = n2 ∧ y = asked2 ∧ ((ak.cl = s ∧ ak.num = nn + 1) ∨ (ak.cl = s ∧ ak.num = nn ∧ y = asked) ∨ (s = 0 ∧ ak.num = 1))))
    (K : Act → World → Prop)
    (HK : Hid (∀ (u4 u9 u10 u12 u20 u93 u94 u95 u96 u97 u98 u99 u100 u101 u102 u103 u104 u105 u106 u107 u108 u109 u110 u111 u112 u113 u114 u115 u116 u117 u118 u119 u120 u121 u122 u123 u124 u125 u126 u127 u128 u129 u130 u131 u132 u133 u134 u135 u136 u137 u138 u139 u140 u141 u142 u143 u144 u145 u146 u147 u148 u149 u150 u151 u152 u153 u154 u155 u156 u157 u158 u159 u160 u161 u162 u163 u164 u165 u166 u167 u168 u169 u170 u171 u172 u173 u174 u175 u176 u177 u178 u179 : Value) (wx : World), u9 = .int .i64 (s2 : Int) ∧ u10 = .int .i64 (n2 : Int) ∧ u12 = .int .i64 (ak.id : Int) ∧ Hid (Cl0 w0 wx C A c2 asked2) ∧ Hid (wx.heap[T18]? = some (.cells (rowA ak).toArray 78 (0, 0))) → K ⟨#[v0, .slice sa n sc, v2, v3, u4, .slice a k c, v6, .pointer (some ⟨C, 0, none⟩), v8, u9, u10, .pointer (some ⟨A, 0, none⟩), u12, .int .i64 (i : Int), v14, v15, v16, v17, .pointer (some ⟨T18, 0, none⟩), .bool true, u20, v21, v22, v23, v24, v25, v26, v27, v28, v29, v30, v31, v32, v33, v34, v35, v36, v37, v38, v39, v40, v41, v42, v43, v44, v45, v46, v47, v48, v49, v50, v51, v52, v53, v54, v55, v56, v57, v58, v59, v60, v61, v62, v63, v64, v65, v66, v67, v68, v69, v70, v71, v72, v73, v74, v75, v76, v77, v78, v79, v80, v81, v82, v83, v84, v85, v86, v87, v88, v89, v90, v91, .bool true, u93, u94, u95, u96, u97, u98, u99, u100, u101, u102, u103, u104, u105, u106, u107, u108, u109, u110, u111, u112, u113, u114, u115, u116, u117, u118, u119, u120, u121, u122, u123, u124, u125, u126, u127, u128, u129, u130, u131, u132, u133, u134, u135, u136, u137, u138, u139, u140, u141, u142, u143, u144, u145, u146, u147, u148, u149, u150, u151, u152, u153, u154, u155, u156, u157, u158, u159, u160, u161, u162, u163, u164, u165, u166, u167, u168, u169, u170, u171, u172, u173, u174, u175, u176, u177, u178, u179, v180, v181, v182, v183, v184, v185, v186, v187, v188, v189, v190, v191, v192, v193, v194, v195, v196, v197, v198, v199, v200, v201, v202, v203, v204, v205, v206, v207, v208, v209, v210, v211, v212, v213, v214, v215, v216, v217, v218, v219, v220, v221, v222, v223, v224, v225, v226, v227, v228, v229, v230, v231, v232, v233, v234, v235, v236, v237, v238, v239, v240, v241, v242, v243, v244, v245, v246, v247, v248, v249, v250, v251, v252, v253, v254, v255, v256, v257, v258, v259, v260, v261, v262, v263, v264, v265, v266, v267, v268], []⟩ wx)) :
    Code.wp Try.prog ((Try.f5.body.bind (condAt 92)).getD .skip) (Exit.then K fun _ _ _ => False) ⟨#[v0, .slice sa n sc, v2, v3, v4, .slice a k c, v6, .pointer (some ⟨C, 0, none⟩), v8, .int .i64 (s : Int), .int .i64 (nn : Int), .pointer (some ⟨A, 0, none⟩), .int .i64 (last : Int), .int .i64 (i : Int), v14, v15, v16, v17, .pointer (some ⟨T18, 0, none⟩), .bool true, v20, v21, v22, v23, v24, v25, v26, v27, v28, v29, v30, v31, v32, v33, v34, v35, v36, v37, v38, v39, v40, v41, v42, v43, v44, v45, v46, v47, v48, v49, v50, v51, v52, v53, v54, v55, v56, v57, v58, v59, v60, v61, v62, v63, v64, v65, v66, v67, v68, v69, v70, v71, v72, v73, v74, v75, v76, v77, v78, v79, v80, v81, v82, v83, v84, v85, v86, v87, v88, v89, v90, v91, .bool true, v93, v94, v95, v96, v97, v98, v99, v100, v101, v102, v103, v104, v105, v106, v107, v108, v109, v110, v111, v112, v113, v114, v115, v116, v117, v118, v119, v120, v121, v122, v123, v124, v125, v126, v127, v128, v129, v130, v131, v132, v133, v134, v135, v136, v137, v138, v139, v140, v141, v142, v143, v144, v145, v146, v147, v148, v149, v150, v151, v152, v153, v154, v155, v156, v157, v158, v159, v160, v161, v162, v163, v164, v165, v166, v167, v168, v169, v170, v171, v172, v173, v174, v175, v176, v177, v178, v179, v180, v181, v182, v183, v184, v185, v186, v187, v188, v189, v190, v191, v192, v193, v194, v195, v196, v197, v198, v199, v200, v201, v202, v203, v204, v205, v206, v207, v208, v209, v210, v211, v212, v213, v214, v215, v216, v217, v218, v219, v220, v221, v222, v223, v224, v225, v226, v227, v228, v229, v230, v231, v232, v233, v234, v235, v236, v237, v238, v239, v240, v241, v242, v243, v244, v245, v246, v247, v248, v249, v250, v251, v252, v253, v254, v255, v256, v257, v258, v259, v260, v261, v262, v263, v264, v265, v266, v267, v268], []⟩ W6 := by
  conv => arg 2; whnf
  have Hw2 := Lib.hid hw2
  obtain ⟨id, node, acl, num, ck, ckey, cval, ciff⟩ := ak
  simp only [] at hid hn1 hn2 hway HK ⊢
  have tid : ((id : Int) != (last : Int) + 1) = false := by rw [hid]; simp
  have tn1 : decide ((node : Int) < 1) = false := decide_eq_false (by omega)
  have tn2 : decide (k < node) = false := decide_eq_false (by omega)
  clear hid hw2
  obtain ⟨W7, hW7⟩ := hide (W6.alloc (.cells #[.int .i64 (acl : Int), .int .i64 (num : Int), .int .i64 ck, str ckey, str cval, .int .i64 ciff, .int .i64 0] 76))
  have HbW7 : Hid (Below W6.heap.size W6 W7) := by show Below _ _ _; rw [← hW7.out]; exact (Below.refl _ _).alloc (Nat.le_refl _) _
  have HS7 := Lib.hid (HS6.out.new HbW7.out)
  have HT18b : Hid (W7.heap[T18]? = some (.cells (rowA ⟨id, node, acl, num, ck, ckey, cval, ciff⟩).toArray 78 (0, 0))) := (HbW7.out.block T18 (lt_of_block HT18.out)).trans HT18.out
  have HT20 : Hid (W7.heap[W6.heap.size]? = some (.cells #[.int .i64 (acl : Int), .int .i64 (num : Int), .int .i64 ck, str ckey, str cval, .int .i64 ciff, .int .i64 0] 76 (0, 0))) := by show _ = _; rw [← hW7.out]; exact hp_at _ _ rfl
  obtain ⟨T20, hT20⟩ := hide W6.heap.size
  rw [hT20.out] at HT20
  obtain ⟨q0, q1, q2, q3, q4, q5, q6, q7, q8⟩ := nine_cells HT18.out
  have Hway := Lib.hid hway
  clear hway
  go_upto_region 29 with fail
  try rw [hW7.out]
  try rw [hT20.out]
  clear q0 q1 q2 q3 q4 q5 q6 q7 q8
  have q0 := cell_n HT18b.out 0 (v := .int .i64 (id : Int)) rfl
  have q1 := cell_n HT18b.out 1 (v := .int .i64 (node : Int)) rfl
  have r0 := cell_n HT20.out 0 (v := .int .i64 (acl : Int)) rfl
  have r1 := cell_n HT20.out 1 (v := .int .i64 (num : Int)) rfl
  have r2 := cell_n HT20.out 2 (v := .int .i64 ck) rfl
  have r3 := cell_n HT20.out 3 (v := str ckey) rfl
  have r4 := cell_n HT20.out 4 (v := str cval) rfl
  have r5 := cell_n HT20.out 5 (v := .int .i64 ciff) rfl
  obtain ⟨yk, ykey, yval, yiff⟩ := asked
  have x0 := cell_n HS7.out.a 0 (v := .int .i64 yk) rfl
  have x1 := cell_n HS7.out.a 1 (v := str ykey) rfl
  have x2 := cell_n HS7.out.a 2 (v := str yval) rfl
  have x3 := cell_n HS7.out.a 3 (v := .int .i64 yiff) rfl
  rcases Hway.out with ⟨h1, h2, h3, h4, h5, h6⟩ | ⟨h1, h2, h3, h4, h5, h6⟩
  · have e3 : ck = 0 ∧ ckey = [] ∧ cval = [] ∧ ciff = 0 := by simpa [zeroCmd] using h3
    obtain ⟨rfl, rfl, rfl, rfl⟩ := e3
    have t1 : ((acl : Int) == 0) = true := by rw [h1]; rfl
    have t2 : ((num : Int) != 0) = false := by rw [h2]; rfl
    have t3 : ((acl : Int) != 0) = false := by rw [h1]; rfl
    have H4 := Lib.hid h4
    have H5 := Lib.hid h5
    have H6 := Lib.hid h6
    clear h1 h2 h3 h4 h5 h6 x0 x1 x2 x3
    go_wp2_with fail
    (refine HK.out _ _ _ _ _ _ _ _ _ _ _ _ _ _ _ _ _ _ _ _ _ _ _ _ _ _ _ _ _ _ _ _ _ _ _ _ _ _ _ _ _ _ _ _ _ _ _ _ _ _ _ _ _ _ _ _ _ _ _ _ _ _ _ _ _ _ _ _ _ _ _ _ _ _ _ _ _ _ _ _ _ _ _ _ _ _ _ _ _ _ _ _ _ ?_; exact ⟨by rw [H4.out], by rw [H5.out], rfl, by rw [← H6.out]; exact HS7, HT18b⟩)
  · subst h3
    subst h4
    subst h5
    subst h2
    have f0 := free_n HS7.out.a 0
    have f1 := free_n HS7.out.a 1
    have f2 := free_n HS7.out.a 2
    have f3 := free_n HS7.out.a 3
    have HS8 : Hid (Cl0 w0 (setAll W7 A (rowCmd ⟨ck, ckey, cval, ciff⟩)) C A c2 ⟨ck, ckey, cval, ciff⟩) := HS7.out.putA Hw2.out
    have HT8 : Hid ((setAll W7 A (rowCmd ⟨ck, ckey, cval, ciff⟩)).heap[T18]? = some (.cells (rowA ⟨id, node, acl, num, ck, ckey, cval, ciff⟩).toArray 78 (0, 0))) := setAll_other HT18b.out (fun e => by
      have h := HS7.out.a
      rw [e, HT18b.out] at h
      injection h with h
      injection h with _ h _
      revert h
      decide) _
    have t1 : ((acl : Int) == 0) = false := beq_eq_false_iff_ne.2 (by omega)
    have t3 : ((acl : Int) != 0) = true := by rw [bne_iff_ne]; omega
    have HE : Hid (∀ (u : Value), True) := fun _ => trivial
    rcases h6 with ⟨h7, h8⟩ | ⟨h7, h8, h9⟩ | ⟨h7, h8⟩
    · have t4 : ((acl : Int) == (s : Int)) = true := beq_iff_eq.2 (by omega)
      have t5 : ((acl : Int) != (s : Int)) = false := by rw [bne_eq_false_iff_eq]; omega
      have t6 : decide (num < nn) = false := decide_eq_false (by omega)
      have t7 : decide ((nn : Int) + 1 < (num : Int)) = false := decide_eq_false (by omega)
      have t8 : ((num : Int) == (nn : Int)) = false := beq_eq_false_iff_ne.2 (by omega)
      clear h1 h7 h8
      go_wp2_with fail
      (refine HK.out _ _ _ _ _ _ _ _ _ _ _ _ _ _ _ _ _ _ _ _ _ _ _ _ _ _ _ _ _ _ _ _ _ _ _ _ _ _ _ _ _ _ _ _ _ _ _ _ _ _ _ _ _ _ _ _ _ _ _ _ _ _ _ _ _ _ _ _ _ _ _ _ _ _ _ _ _ _ _ _ _ _ _ _ _ _ _ _ _ _ _ _ _ ?_; exact ⟨rfl, rfl, rfl, HS8, HT8⟩)
    · have t4 : ((acl : Int) == (s : Int)) = true := beq_iff_eq.2 (by omega)
      have t5 : ((acl : Int) != (s : Int)) = false := by rw [bne_eq_false_iff_eq]; omega
      have t6 : decide (num < nn) = false := decide_eq_false (by omega)
      have t7 : decide ((nn : Int) + 1 < (num : Int)) = false := decide_eq_false (by omega)
      have t8 : ((num : Int) == (nn : Int)) = true := beq_iff_eq.2 (by omega)
      injection h9 with g1 g2 g3 g4
      subst g1
      subst g2
      subst g3
      subst g4
      clear h1 h7 h8
      go_wp2_with fail
      (refine HK.out _ _ _ _ _ _ _ _ _ _ _ _ _ _ _ _ _ _ _ _ _ _ _ _ _ _ _ _ _ _ _ _ _ _ _ _ _ _ _ _ _ _ _ _ _ _ _ _ _ _ _ _ _ _ _ _ _ _ _ _ _ _ _ _ _ _ _ _ _ _ _ _ _ _ _ _ _ _ _ _ _ _ _ _ _ _ _ _ _ _ _ _ _ ?_; exact ⟨rfl, rfl, rfl, HS8, HT8⟩)
    · have t4 : ((acl : Int) == (s : Int)) = false := beq_eq_false_iff_ne.2 (by omega)
      have t5 : ((acl : Int) != (s : Int)) = true := by rw [bne_iff_ne]; omega
      have t6 : ((num : Int) != 1) = false := by rw [h8]; rfl
      clear h1 h7 h8
      go_wp2_with fail
      (refine HK.out _ _ _ _ _ _ _ _ _ _ _ _ _ _ _ _ _ _ _ _ _ _ _ _ _ _ _ _ _ _ _ _ _ _ _ _ _ _ _ _ _ _ _ _ _ _ _ _ _ _ _ _ _ _ _ _ _ _ _ _ _ _ _ _ _ _ _ _ _ _ _ _ _ _ _ _ _ _ _ _ _ _ _ _ _ _ _ _ _ _ _ _ _ ?_; exact ⟨rfl, rfl, rfl, HS8, HT8⟩)
end Go.Proofs.Ytckclacdmpcpbaa
