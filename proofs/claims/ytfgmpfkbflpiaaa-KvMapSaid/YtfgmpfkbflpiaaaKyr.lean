/-
  KvMap: a row of texts without one.
-/
import Derived.Test.YtfgmpfkbflpiaaaKx
import Derived.Deep.CutRange
import Derived.Deep.RegionLaw
namespace Go.Proofs.Ytfgmpfkbflpiaaa
open Go.RowKit Wm Mm Dg Kv
set_option linter.unusedVariables false
set_option linter.unusedSimpArgs false

theorem txs_take {F : Nat → Prop} {w : World} {g n c : Nat} {l : List (List UInt8)} (h : Txs F w (.slice (some ⟨g, 0, none⟩) n c) l) (hn : n = l.length) {a : Nat} (ha : a ≤ n) : Txs F w (.slice (some ⟨g, 0, none⟩) a c) (l.take a) := by
  subst hn
  exact h.take ha
/-- a row of texts without one: the two parts of it as sources -/
theorem del_src {S : Nat} {w : World} {g n c a : Nat} {l : List (List UInt8)} (h : w.ownsRow S 9 1 (.slice (some ⟨g, 0, none⟩) n c) n (l.flatMap rowText)) (hn : n = l.length) (ha : a < n) :
    Src Try.prog 1 24 (.slice (some ⟨g, 0, none⟩) a c) a ((l.take a).flatMap rowText) w ∧
    (c = a + 1 → Src Try.prog 1 24 (.slice (some ⟨g, 0, none⟩) (n - (a + 1)) (c - (a + 1))) (n - (a + 1)) ((l.drop (a + 1)).flatMap rowText) w) ∧
    (c ≠ a + 1 → Src Try.prog 1 24 (.slice (some ⟨g, a + 1, none⟩) (n - (a + 1)) (c - (a + 1))) (n - (a + 1)) ((l.drop (a + 1)).flatMap rowText) w) := by
  subst hn
  have hx : Txs (fun k => S ≤ k) w (.slice (some ⟨g, 0, none⟩) l.length c) l := own_txs h
  have hc := (own_lt h).1
  have h1 := hx.take (k := a) (by omega)
  have hl1 : (l.take a).length = a := by rw [List.length_take]; omega
  have hl2 : (l.drop (a + 1)).length = l.length - (a + 1) := List.length_drop
  have h1 : Txs (fun k => S ≤ k) w (.slice (some ⟨g, 0, none⟩) (l.take a).length c) (l.take a) := by rw [hl1]; exact h1
  have s1 := src_sl (P := Try.prog) (tx := 24) rowText Try.underlying24 (by decide) (fun _ => rfl) rowText_one h1
  rw [hl1] at s1
  refine ⟨s1, fun e => ?_, fun e => ?_⟩
  · have e1 : l.length = a + 1 := by omega
    have e2 : l.drop (a + 1) = [] := List.drop_of_length_le (by omega)
    rw [e2, e1, e, Nat.sub_self]
    exact Src.ofSlice w Try.underlying24 _ _ _ _ rfl (fun j u hj => by simp at hj) (fun u hu => by cases hu)
  · have h2 := hx.drop (k := a + 1) (by omega)
    rw [Nat.mul_one, Nat.zero_add, ← hl2] at h2
    have s2 := src_sl (P := Try.prog) (tx := 24) rowText Try.underlying24 (by decide) (fun _ => rfl) rowText_one h2
    rw [hl2] at s2
    exact s2
theorem flat_at : ∀ (l : List (List UInt8)) (a : Nat) (h : a < l.length), (l.flatMap rowText)[a]? = some (str l[a])
  | x :: r, 0, _ => rfl
  | x :: r, a + 1, h => flat_at r a (by simpa using h)
theorem set_last (l : List (List UInt8)) (n : Nat) (v : List UInt8) (hn : n = l.length) : (l ++ [[]]).set n v = l ++ [v] := by
  subst hn
  rw [List.set_append_right _ _ (Nat.le_refl _), Nat.sub_self]
  rfl
/-- what holds once a value was put -/
def PutEnd (S : Nat) (w0 W wx : World) (C i : Nat) (rowC : List Value) (np : Value) (p : List PairP) (v6 v7 v12 : Value) : Prop :=
  ∃ (n2 kc2 vc2 : Nat) (ka2 va2 : Option Addr) (keys2 vals2 : List (List UInt8)) (at2 : Int), v6 = .slice ka2 n2 kc2 ∧ v7 = .slice va2 n2 vc2 ∧ v12 = .int .i64 at2 ∧ n2 = keys2.length ∧ Hid (MapW S wx np v6 v7 p keys2 vals2) ∧ Hid (MapInv p keys2 vals2 (i + 1)) ∧ Hid (Below w0.heap.size w0 wx) ∧ S ≤ wx.heap.size ∧ Hid (wx.heap[C]? = some (.cells rowC.toArray 30 (0, 0)))
/-- what holds behind what is deleted -/
def DelEnd (S : Nat) (w0 wx : World) (i : Nat) (np : Value) (p : List PairP) (v6 v7 : Value) : Prop :=
  ∃ (n3 kc3 vc3 : Nat) (ka3 va3 : Option Addr) (keys3 vals3 : List (List UInt8)), v6 = .slice ka3 n3 kc3 ∧ v7 = .slice va3 n3 vc3 ∧ n3 = keys3.length ∧ Hid (MapW S wx np v6 v7 p keys3 vals3) ∧ Hid (MapInv p keys3 vals3 (i + 1)) ∧ Hid (Below w0.heap.size w0 wx) ∧ S ≤ wx.heap.size
theorem erase_row {S : Nat} {w : World} {a m : Nat} {a6 : Option Addr} {c6 : Nat} {l : List (List UInt8)} (ha : a < l.length) (hm : m = l.length - (a + 1)) (h : w.ownsRow S 9 1 (.slice a6 (a + m) c6) (a + m) ((l.take a).flatMap rowText ++ (l.drop (a + 1)).flatMap rowText)) : OwnT S w (.slice a6 (a + m) c6) (l.eraseIdx a) := by
  have e : (l.eraseIdx a).length = a + m := by rw [List.length_eraseIdx, if_pos ha]; omega
  show World.ownsRow _ _ _ _ _ _ _
  rw [e, List.eraseIdx_eq_take_drop_succ, List.flatMap_append]
  exact h
theorem chg_box {w w' : World} {S size n b : Nat} {e u : TypeId} {v : Value} {xs : List Value} {y : Array Value} (h : w.ownsRow S e size v n xs) (hg : w.grownBy w' v.ownBlock) (hb : w.heap[b]? = some (.cells y u (0, 0))) (hne : e ≠ u) : w'.heap[b]? = some (.cells y u (0, 0)) :=
  (hg.block b (lt_of_block hb) (fun e2 => own_blk_ne h hb hne e2.symm)).trans hb
set_option maxHeartbeats 4000000 in
set_option maxRecDepth 100000 in
theorem piece_r46 {v0 v1 v2 v3 v4 v5 v7 v8 v9 v10 v11 v13 v14 v15 v16 v17 v18 v19 v20 v21 v22 v23 v24 v25 v26 v27 v28 v29 v30 v31 v32 v33 v34 v35 v36 v37 v38 v39 v40 v41 v42 v43 v44 v45 v46 v47 v48 v49 v50 v51 v52 v53 v54 v55 v56 v57 v58 v59 v60 v61 v62 v63 v64 v65 v66 v67 v68 v69 v70 v71 v72 v73 v74 v75 v76 v77 v78 v79 v80 v81 v82 v83 v84 v85 v86 v87 v88 v89 v90 v91 v92 v93 v94 v95 v96 v97 v98 v99 v100 v101 v102 v103 v104 v105 v106 v107 v108 v109 v110 v111 v112 v113 v114 v115 v116 v117 v118 v119 v120 v121 v122 v123 v124 v125 v126 v127 v128 v129 v130 v131 v132 v133 v134 v135 v136 v137 v138 v139 v140 v141 v142 v143 v144 v145 v146 v147 v148 v149 v150 v151 v152 v153 v154 v155 v156 v157 v158 v159 v160 v161 v162 v163 v164 v165 v166 v167 v168 v169 v170 v171 v172 v173 v174 v175 v176 v177 v178 v179 v180 v181 v182 v183 v184 v185 v186 v187 v188 v189 v190 v191 v192 v193 v194 v195 v196 v197 v198 v199 v200 v201 v202 v203 v204 v205 v206 v207 v208 v209 v210 v211 v212 v213 v214 v215 v216 v217 v218 v219 v220 v221 v222 v223 v224 v225 v226 v227 v228 v229 v230 v231 v232 v233 v234 v235 v236 v237 v238 v239 v240 v241 v242 v243 : Value} (S n a kc : Nat) (W : World) (ka : Option Addr) (keys : List (List UInt8)) (HK0 : Hid (W.ownsRow S 9 1 (.slice ka n kc) n (keys.flatMap rowText))) (hn : n = keys.length) (hn32 : n ≤ 32) (ha : a < n)
    (K : Act → World → Prop)
    (HK : Hid (∀ (u6 u192 u193 u194 u195 u196 u197 u198 u199 u200 : Value) (wx : World), (∃ a6 c6, u6 = .slice a6 (a + (n - (a + 1))) c6 ∧ Hid (OwnT W.heap.size wx (.slice a6 (a + (n - (a + 1))) c6) (keys.eraseIdx a)) ∧ Hid (Below W.heap.size W wx)) → K ⟨#[v0, v1, v2, v3, v4, v5, u6, v7, v8, v9, v10, v11, .int .i64 (a : Int), v13, v14, v15, v16, v17, v18, v19, v20, v21, v22, v23, v24, v25, v26, v27, v28, v29, v30, v31, v32, v33, v34, v35, v36, v37, v38, v39, v40, v41, v42, v43, v44, v45, v46, v47, v48, v49, v50, v51, v52, v53, v54, v55, v56, v57, v58, v59, v60, v61, v62, v63, v64, v65, v66, v67, v68, v69, v70, v71, v72, v73, v74, v75, v76, v77, v78, v79, v80, v81, v82, v83, v84, v85, v86, v87, v88, v89, v90, v91, v92, v93, v94, v95, v96, v97, v98, v99, v100, v101, v102, v103, v104, v105, v106, v107, v108, v109, v110, v111, v112, v113, v114, v115, v116, v117, v118, v119, v120, v121, v122, v123, v124, v125, v126, v127, v128, v129, v130, v131, v132, v133, v134, v135, v136, v137, v138, v139, v140, v141, v142, v143, v144, v145, v146, v147, v148, v149, v150, v151, v152, v153, v154, v155, v156, v157, v158, v159, v160, v161, v162, v163, v164, v165, v166, v167, v168, v169, v170, v171, v172, v173, v174, v175, v176, v177, v178, v179, v180, v181, v182, v183, v184, v185, v186, v187, v188, v189, v190, v191, u192, u193, u194, u195, u196, u197, u198, u199, u200, v201, v202, v203, v204, v205, v206, v207, v208, v209, v210, v211, v212, v213, v214, v215, v216, v217, v218, v219, v220, v221, v222, v223, v224, v225, v226, v227, v228, v229, v230, v231, v232, v233, v234, v235, v236, v237, v238, v239, v240, v241, v242, v243], []⟩ wx)) :
    Code.wp Try.prog ((Try.f4.body.bind (regionAt 46)).getD .skip) (Exit.then K fun _ _ _ => False) ⟨#[v0, v1, v2, v3, v4, v5, .slice ka n kc, v7, v8, v9, v10, v11, .int .i64 (a : Int), v13, v14, v15, v16, v17, v18, v19, v20, v21, v22, v23, v24, v25, v26, v27, v28, v29, v30, v31, v32, v33, v34, v35, v36, v37, v38, v39, v40, v41, v42, v43, v44, v45, v46, v47, v48, v49, v50, v51, v52, v53, v54, v55, v56, v57, v58, v59, v60, v61, v62, v63, v64, v65, v66, v67, v68, v69, v70, v71, v72, v73, v74, v75, v76, v77, v78, v79, v80, v81, v82, v83, v84, v85, v86, v87, v88, v89, v90, v91, v92, v93, v94, v95, v96, v97, v98, v99, v100, v101, v102, v103, v104, v105, v106, v107, v108, v109, v110, v111, v112, v113, v114, v115, v116, v117, v118, v119, v120, v121, v122, v123, v124, v125, v126, v127, v128, v129, v130, v131, v132, v133, v134, v135, v136, v137, v138, v139, v140, v141, v142, v143, v144, v145, v146, v147, v148, v149, v150, v151, v152, v153, v154, v155, v156, v157, v158, v159, v160, v161, v162, v163, v164, v165, v166, v167, v168, v169, v170, v171, v172, v173, v174, v175, v176, v177, v178, v179, v180, v181, v182, v183, v184, v185, v186, v187, v188, v189, v190, v191, v192, v193, v194, v195, v196, v197, v198, v199, v200, v201, v202, v203, v204, v205, v206, v207, v208, v209, v210, v211, v212, v213, v214, v215, v216, v217, v218, v219, v220, v221, v222, v223, v224, v225, v226, v227, v228, v229, v230, v231, v232, v233, v234, v235, v236, v237, v238, v239, v240, v241, v242, v243], []⟩ W := by
  conv => arg 2; whnf
  have HN := Lib.hid hn
  clear hn
  obtain ⟨b, hb1⟩ : ∃ b : Nat, b = a + 1 := ⟨_, rfl⟩
  have Hb1 := Lib.hid hb1
  obtain ⟨m2, Hm2⟩ := hide (n - b)
  have Hwr : Hid (IntKind.i64.wrap ((a : Int) + 1) = (b : Int)) := by show _ = _; rw [hb1]; exact IntWalk.i64_in _ (by omega)
  clear hb1
  obtain ⟨g, rfl⟩ := own_some HK0.out (by omega)
  have KA : Hid (∀ w', Below W.heap.size W w' → Src Try.prog 1 24 (.slice (some ⟨g, 0, none⟩) a kc) a ((keys.take a).flatMap rowText) w') := fun w' hb => (del_src (own_below HK0.out hb) HN.out ha).1
  have KB : Hid (∀ w', Below W.heap.size W w' → (kc = b → Src Try.prog 1 24 (.slice (some ⟨g, 0, none⟩) m2 (kc - b)) m2 ((keys.drop (a + 1)).flatMap rowText) w') ∧ (kc ≠ b → Src Try.prog 1 24 (.slice (some ⟨g, b, none⟩) m2 (kc - b)) m2 ((keys.drop (a + 1)).flatMap rowText) w')) := fun w' hb => by
    have h := (del_src (own_below HK0.out hb) HN.out ha).2
    rw [← Hm2.out, Hb1.out]
    exact h
  have hcap := (own_lt HK0.out).1
  have hcm := (own_lt HK0.out).2.1
  obtain ⟨SX, hSX⟩ := hide W.heap.size
  have Hn : Hid (∀ w : World, w.ownsRow SX 9 1 (.slice none 0 0) 0 []) := fun w => World.ownsRow_nil _ _ _ _
  have Hd : Hid (Below W.heap.size W W.drew) := (Below.refl _ _).drew
  have HSd : Hid (SX ≤ W.drew.heap.size) := by show _ ≤ _; rw [← hSX.out]; exact Nat.le_refl _
  have HSl : Hid (∀ w', Below W.heap.size W w' → SX ≤ w'.heap.size) := fun w' hb => by rw [← hSX.out]; exact hb.size
  have HSf : Hid (∀ w1 w2, Below W.heap.size W w1 → w1.grownBy w2 (Value.slice none 0 0).ownBlock → Below W.heap.size W w2) := fun w1 w2 h1 h2 => h1.trans (grown_fresh0 h2 h1.size)
  have q0 : (a : Int) ≤ (n : Int) := by omega
  have q1 : (a : Int) ≤ (kc : Int) := by omega
  have q2 : a ≤ kc := by omega
  have hbn : b ≤ n := by rw [Hb1.out]; omega
  have q3 : (b : Int) ≤ (n : Int) := by omega
  have q4 : (b : Int) ≤ (kc : Int) := by omega
  have q5 : b ≤ kc := by omega
  have hm2 : n - b = m2 := Hm2.out
  have hm32 : m2 ≤ 32 := by omega
  have q6 : IntKind.i64.wrap ((a : Int) + 1) = (b : Int) := Hwr.out
  by_cases hk : kc = b
  · have K2 : Hid (∀ w', Below W.heap.size W w' → Src Try.prog 1 24 (.slice (some ⟨g, 0, none⟩) m2 0) m2 ((keys.drop (a + 1)).flatMap rowText) w') := fun w' hb => by
      have h := (KB.out w' hb).1 hk
      rw [hk, Nat.sub_self] at h
      exact h
    obtain rfl : b = kc := hk.symm
    clear KB
    go_region_law (first
      | ((refine step_append_src ?h1 (.const (.slice none 0 0)) (.tmp 194) 24 24 ?h2 SX 9 _ 1 16 Try.underlying24 info_text rfl (.slice none 0 0) 0 [] ?e1 (Hn.out _) (.slice (some ⟨g, 0, none⟩) a b) a ((keys.take a).flatMap rowText) ?e2 (KA.out _ Hd.out) (by unfold maxLen; omega) (by omega) HSd.out ?_); (case h1 => rfl); (case h2 => rfl); (case e1 => simp [Act.eval, Act.put]); (case e2 => simp [Act.eval, Act.put]); intro v1 w1 ho1 hg1; obtain ⟨a1, c1, rfl⟩ := owns_slice ho1; have Hb4 := Lib.hid (HSf.out _ _ Hd.out hg1); (try simp only [Nat.zero_add, List.nil_append] at ho1); have Ho1 := Lib.hid ho1; clear ho1 hg1)
      | ((refine step_append_src ?h1 (.tmp 195) (.tmp 199) 24 24 ?h2 SX 9 _ 1 16 Try.underlying24 info_text rfl (.slice a1 a c1) a _ ?e1 Ho1.out (.slice (some ⟨g, 0, none⟩) m2 0) m2 _ ?e2 (K2.out _ Hb4.out) (by unfold maxLen; omega) (by omega) (HSl.out _ Hb4.out) ?_); (case h1 => rfl); (case h2 => rfl); (case e1 => simp [Act.eval, Act.put]); (case e2 => simp [Act.eval, Act.put]); intro v2 w2 ho2 hg2; obtain ⟨a2, c2, rfl⟩ := owns_slice ho2; have Hb5 : Hid (Below W.heap.size W w2) := Hb4.out.trans (below_own Ho1.out hg2 (by rw [hSX.out]; exact Nat.le_refl _) Hb4.out.size); have Ho2 := Lib.hid ho2; clear ho2 hg2))
    all_goals
      have HF : Hid (OwnT W.heap.size w2 (.slice a2 (a + m2) c2) (keys.eraseIdx a)) := by rw [hSX.out]; exact erase_row (by rw [← HN.out]; exact ha) (by rw [← HN.out, ← Hm2.out, Hb1.out]) Ho2.out
      have HR : Hid (∃ a6 c6, Value.slice a2 (a + m2) c2 = .slice a6 (a + (n - (a + 1))) c6 ∧ Hid (OwnT W.heap.size w2 (.slice a6 (a + (n - (a + 1))) c6) (keys.eraseIdx a)) ∧ Hid (Below W.heap.size W w2)) := by
        have e : n - (a + 1) = m2 := by rw [← Hm2.out, Hb1.out]
        rw [e]
        exact ⟨a2, c2, rfl, HF, Hb5⟩
      clear q0 q1 q2 q3 q4 q5 q6 hcap hcm hbn hm2 hm32
      go_wp2_with fail
      (refine HK.out _ _ _ _ _ _ _ _ _ _ _ ?_; exact HR.out)
  · have K2 : Hid (∀ w', Below W.heap.size W w' → Src Try.prog 1 24 (.slice (some ⟨g, b, none⟩) m2 (kc - b)) m2 ((keys.drop (a + 1)).flatMap rowText) w') := fun w' hb => (KB.out w' hb).2 hk
    clear KB
    go_region_law (first
      | ((refine step_append_src ?h1 (.const (.slice none 0 0)) (.tmp 194) 24 24 ?h2 SX 9 _ 1 16 Try.underlying24 info_text rfl (.slice none 0 0) 0 [] ?e1 (Hn.out _) (.slice (some ⟨g, 0, none⟩) a kc) a ((keys.take a).flatMap rowText) ?e2 (KA.out _ Hd.out) (by unfold maxLen; omega) (by omega) HSd.out ?_); (case h1 => rfl); (case h2 => rfl); (case e1 => simp [Act.eval, Act.put]); (case e2 => simp [Act.eval, Act.put]); intro v1 w1 ho1 hg1; obtain ⟨a1, c1, rfl⟩ := owns_slice ho1; have Hb4 := Lib.hid (HSf.out _ _ Hd.out hg1); (try simp only [Nat.zero_add, List.nil_append] at ho1); have Ho1 := Lib.hid ho1; clear ho1 hg1)
      | ((refine step_append_src ?h1 (.tmp 195) (.tmp 199) 24 24 ?h2 SX 9 _ 1 16 Try.underlying24 info_text rfl (.slice a1 a c1) a _ ?e1 Ho1.out (.slice (some ⟨g, b, none⟩) m2 (kc - b)) m2 _ ?e2 (K2.out _ Hb4.out) (by unfold maxLen; omega) (by omega) (HSl.out _ Hb4.out) ?_); (case h1 => rfl); (case h2 => rfl); (case e1 => simp [Act.eval, Act.put]); (case e2 => simp [Act.eval, Act.put]); intro v2 w2 ho2 hg2; obtain ⟨a2, c2, rfl⟩ := owns_slice ho2; have Hb5 : Hid (Below W.heap.size W w2) := Hb4.out.trans (below_own Ho1.out hg2 (by rw [hSX.out]; exact Nat.le_refl _) Hb4.out.size); have Ho2 := Lib.hid ho2; clear ho2 hg2))
    all_goals
      have HF : Hid (OwnT W.heap.size w2 (.slice a2 (a + m2) c2) (keys.eraseIdx a)) := by rw [hSX.out]; exact erase_row (by rw [← HN.out]; exact ha) (by rw [← HN.out, ← Hm2.out, Hb1.out]) Ho2.out
      have HR : Hid (∃ a6 c6, Value.slice a2 (a + m2) c2 = .slice a6 (a + (n - (a + 1))) c6 ∧ Hid (OwnT W.heap.size w2 (.slice a6 (a + (n - (a + 1))) c6) (keys.eraseIdx a)) ∧ Hid (Below W.heap.size W w2)) := by
        have e : n - (a + 1) = m2 := by rw [← Hm2.out, Hb1.out]
        rw [e]
        exact ⟨a2, c2, rfl, HF, Hb5⟩
      clear q0 q1 q2 q3 q4 q5 q6 hcap hcm hbn hm2 hm32
      go_wp2_with fail
      (refine HK.out _ _ _ _ _ _ _ _ _ _ _ ?_; exact HR.out)
set_option maxHeartbeats 4000000 in
set_option maxRecDepth 100000 in
theorem piece_r47 {v0 v1 v2 v3 v4 v5 v6 v8 v9 v10 v11 v13 v14 v15 v16 v17 v18 v19 v20 v21 v22 v23 v24 v25 v26 v27 v28 v29 v30 v31 v32 v33 v34 v35 v36 v37 v38 v39 v40 v41 v42 v43 v44 v45 v46 v47 v48 v49 v50 v51 v52 v53 v54 v55 v56 v57 v58 v59 v60 v61 v62 v63 v64 v65 v66 v67 v68 v69 v70 v71 v72 v73 v74 v75 v76 v77 v78 v79 v80 v81 v82 v83 v84 v85 v86 v87 v88 v89 v90 v91 v92 v93 v94 v95 v96 v97 v98 v99 v100 v101 v102 v103 v104 v105 v106 v107 v108 v109 v110 v111 v112 v113 v114 v115 v116 v117 v118 v119 v120 v121 v122 v123 v124 v125 v126 v127 v128 v129 v130 v131 v132 v133 v134 v135 v136 v137 v138 v139 v140 v141 v142 v143 v144 v145 v146 v147 v148 v149 v150 v151 v152 v153 v154 v155 v156 v157 v158 v159 v160 v161 v162 v163 v164 v165 v166 v167 v168 v169 v170 v171 v172 v173 v174 v175 v176 v177 v178 v179 v180 v181 v182 v183 v184 v185 v186 v187 v188 v189 v190 v191 v192 v193 v194 v195 v196 v197 v198 v199 v200 v201 v202 v203 v204 v205 v206 v207 v208 v209 v210 v211 v212 v213 v214 v215 v216 v217 v218 v219 v220 v221 v222 v223 v224 v225 v226 v227 v228 v229 v230 v231 v232 v233 v234 v235 v236 v237 v238 v239 v240 v241 v242 v243 : Value} (S n a kc : Nat) (W : World) (ka : Option Addr) (keys : List (List UInt8)) (HK0 : Hid (W.ownsRow S 9 1 (.slice ka n kc) n (keys.flatMap rowText))) (hn : n = keys.length) (hn32 : n ≤ 32) (ha : a < n)
    (K : Act → World → Prop)
    (HK : Hid (∀ (u7 u201 u202 u203 u204 u205 u206 u207 u208 u209 : Value) (wx : World), (∃ a6 c6, u7 = .slice a6 (a + (n - (a + 1))) c6 ∧ Hid (OwnT W.heap.size wx (.slice a6 (a + (n - (a + 1))) c6) (keys.eraseIdx a)) ∧ Hid (Below W.heap.size W wx)) → K ⟨#[v0, v1, v2, v3, v4, v5, v6, u7, v8, v9, v10, v11, .int .i64 (a : Int), v13, v14, v15, v16, v17, v18, v19, v20, v21, v22, v23, v24, v25, v26, v27, v28, v29, v30, v31, v32, v33, v34, v35, v36, v37, v38, v39, v40, v41, v42, v43, v44, v45, v46, v47, v48, v49, v50, v51, v52, v53, v54, v55, v56, v57, v58, v59, v60, v61, v62, v63, v64, v65, v66, v67, v68, v69, v70, v71, v72, v73, v74, v75, v76, v77, v78, v79, v80, v81, v82, v83, v84, v85, v86, v87, v88, v89, v90, v91, v92, v93, v94, v95, v96, v97, v98, v99, v100, v101, v102, v103, v104, v105, v106, v107, v108, v109, v110, v111, v112, v113, v114, v115, v116, v117, v118, v119, v120, v121, v122, v123, v124, v125, v126, v127, v128, v129, v130, v131, v132, v133, v134, v135, v136, v137, v138, v139, v140, v141, v142, v143, v144, v145, v146, v147, v148, v149, v150, v151, v152, v153, v154, v155, v156, v157, v158, v159, v160, v161, v162, v163, v164, v165, v166, v167, v168, v169, v170, v171, v172, v173, v174, v175, v176, v177, v178, v179, v180, v181, v182, v183, v184, v185, v186, v187, v188, v189, v190, v191, v192, v193, v194, v195, v196, v197, v198, v199, v200, u201, u202, u203, u204, u205, u206, u207, u208, u209, v210, v211, v212, v213, v214, v215, v216, v217, v218, v219, v220, v221, v222, v223, v224, v225, v226, v227, v228, v229, v230, v231, v232, v233, v234, v235, v236, v237, v238, v239, v240, v241, v242, v243], []⟩ wx)) :
    Code.wp Try.prog ((Try.f4.body.bind (regionAt 47)).getD .skip) (Exit.then K fun _ _ _ => False) ⟨#[v0, v1, v2, v3, v4, v5, v6, .slice ka n kc, v8, v9, v10, v11, .int .i64 (a : Int), v13, v14, v15, v16, v17, v18, v19, v20, v21, v22, v23, v24, v25, v26, v27, v28, v29, v30, v31, v32, v33, v34, v35, v36, v37, v38, v39, v40, v41, v42, v43, v44, v45, v46, v47, v48, v49, v50, v51, v52, v53, v54, v55, v56, v57, v58, v59, v60, v61, v62, v63, v64, v65, v66, v67, v68, v69, v70, v71, v72, v73, v74, v75, v76, v77, v78, v79, v80, v81, v82, v83, v84, v85, v86, v87, v88, v89, v90, v91, v92, v93, v94, v95, v96, v97, v98, v99, v100, v101, v102, v103, v104, v105, v106, v107, v108, v109, v110, v111, v112, v113, v114, v115, v116, v117, v118, v119, v120, v121, v122, v123, v124, v125, v126, v127, v128, v129, v130, v131, v132, v133, v134, v135, v136, v137, v138, v139, v140, v141, v142, v143, v144, v145, v146, v147, v148, v149, v150, v151, v152, v153, v154, v155, v156, v157, v158, v159, v160, v161, v162, v163, v164, v165, v166, v167, v168, v169, v170, v171, v172, v173, v174, v175, v176, v177, v178, v179, v180, v181, v182, v183, v184, v185, v186, v187, v188, v189, v190, v191, v192, v193, v194, v195, v196, v197, v198, v199, v200, v201, v202, v203, v204, v205, v206, v207, v208, v209, v210, v211, v212, v213, v214, v215, v216, v217, v218, v219, v220, v221, v222, v223, v224, v225, v226, v227, v228, v229, v230, v231, v232, v233, v234, v235, v236, v237, v238, v239, v240, v241, v242, v243], []⟩ W := by
  conv => arg 2; whnf
  have HN := Lib.hid hn
  clear hn
  obtain ⟨b, hb1⟩ : ∃ b : Nat, b = a + 1 := ⟨_, rfl⟩
  have Hb1 := Lib.hid hb1
  obtain ⟨m2, Hm2⟩ := hide (n - b)
  have Hwr : Hid (IntKind.i64.wrap ((a : Int) + 1) = (b : Int)) := by show _ = _; rw [hb1]; exact IntWalk.i64_in _ (by omega)
  clear hb1
  obtain ⟨g, rfl⟩ := own_some HK0.out (by omega)
  have KA : Hid (∀ w', Below W.heap.size W w' → Src Try.prog 1 24 (.slice (some ⟨g, 0, none⟩) a kc) a ((keys.take a).flatMap rowText) w') := fun w' hb => (del_src (own_below HK0.out hb) HN.out ha).1
  have KB : Hid (∀ w', Below W.heap.size W w' → (kc = b → Src Try.prog 1 24 (.slice (some ⟨g, 0, none⟩) m2 (kc - b)) m2 ((keys.drop (a + 1)).flatMap rowText) w') ∧ (kc ≠ b → Src Try.prog 1 24 (.slice (some ⟨g, b, none⟩) m2 (kc - b)) m2 ((keys.drop (a + 1)).flatMap rowText) w')) := fun w' hb => by
    have h := (del_src (own_below HK0.out hb) HN.out ha).2
    rw [← Hm2.out, Hb1.out]
    exact h
  have hcap := (own_lt HK0.out).1
  have hcm := (own_lt HK0.out).2.1
  obtain ⟨SX, hSX⟩ := hide W.heap.size
  have Hn : Hid (∀ w : World, w.ownsRow SX 9 1 (.slice none 0 0) 0 []) := fun w => World.ownsRow_nil _ _ _ _
  have Hd : Hid (Below W.heap.size W W.drew) := (Below.refl _ _).drew
  have HSd : Hid (SX ≤ W.drew.heap.size) := by show _ ≤ _; rw [← hSX.out]; exact Nat.le_refl _
  have HSl : Hid (∀ w', Below W.heap.size W w' → SX ≤ w'.heap.size) := fun w' hb => by rw [← hSX.out]; exact hb.size
  have HSf : Hid (∀ w1 w2, Below W.heap.size W w1 → w1.grownBy w2 (Value.slice none 0 0).ownBlock → Below W.heap.size W w2) := fun w1 w2 h1 h2 => h1.trans (grown_fresh0 h2 h1.size)
  have q0 : (a : Int) ≤ (n : Int) := by omega
  have q1 : (a : Int) ≤ (kc : Int) := by omega
  have q2 : a ≤ kc := by omega
  have hbn : b ≤ n := by rw [Hb1.out]; omega
  have q3 : (b : Int) ≤ (n : Int) := by omega
  have q4 : (b : Int) ≤ (kc : Int) := by omega
  have q5 : b ≤ kc := by omega
  have hm2 : n - b = m2 := Hm2.out
  have hm32 : m2 ≤ 32 := by omega
  have q6 : IntKind.i64.wrap ((a : Int) + 1) = (b : Int) := Hwr.out
  by_cases hk : kc = b
  · have K2 : Hid (∀ w', Below W.heap.size W w' → Src Try.prog 1 24 (.slice (some ⟨g, 0, none⟩) m2 0) m2 ((keys.drop (a + 1)).flatMap rowText) w') := fun w' hb => by
      have h := (KB.out w' hb).1 hk
      rw [hk, Nat.sub_self] at h
      exact h
    obtain rfl : b = kc := hk.symm
    clear KB
    go_region_law (first
      | ((refine step_append_src ?h1 (.const (.slice none 0 0)) (.tmp 203) 24 24 ?h2 SX 9 _ 1 16 Try.underlying24 info_text rfl (.slice none 0 0) 0 [] ?e1 (Hn.out _) (.slice (some ⟨g, 0, none⟩) a b) a ((keys.take a).flatMap rowText) ?e2 (KA.out _ Hd.out) (by unfold maxLen; omega) (by omega) HSd.out ?_); (case h1 => rfl); (case h2 => rfl); (case e1 => simp [Act.eval, Act.put]); (case e2 => simp [Act.eval, Act.put]); intro v1 w1 ho1 hg1; obtain ⟨a1, c1, rfl⟩ := owns_slice ho1; have Hb4 := Lib.hid (HSf.out _ _ Hd.out hg1); (try simp only [Nat.zero_add, List.nil_append] at ho1); have Ho1 := Lib.hid ho1; clear ho1 hg1)
      | ((refine step_append_src ?h1 (.tmp 204) (.tmp 208) 24 24 ?h2 SX 9 _ 1 16 Try.underlying24 info_text rfl (.slice a1 a c1) a _ ?e1 Ho1.out (.slice (some ⟨g, 0, none⟩) m2 0) m2 _ ?e2 (K2.out _ Hb4.out) (by unfold maxLen; omega) (by omega) (HSl.out _ Hb4.out) ?_); (case h1 => rfl); (case h2 => rfl); (case e1 => simp [Act.eval, Act.put]); (case e2 => simp [Act.eval, Act.put]); intro v2 w2 ho2 hg2; obtain ⟨a2, c2, rfl⟩ := owns_slice ho2; have Hb5 : Hid (Below W.heap.size W w2) := Hb4.out.trans (below_own Ho1.out hg2 (by rw [hSX.out]; exact Nat.le_refl _) Hb4.out.size); have Ho2 := Lib.hid ho2; clear ho2 hg2))
    all_goals
      have HF : Hid (OwnT W.heap.size w2 (.slice a2 (a + m2) c2) (keys.eraseIdx a)) := by rw [hSX.out]; exact erase_row (by rw [← HN.out]; exact ha) (by rw [← HN.out, ← Hm2.out, Hb1.out]) Ho2.out
      have HR : Hid (∃ a6 c6, Value.slice a2 (a + m2) c2 = .slice a6 (a + (n - (a + 1))) c6 ∧ Hid (OwnT W.heap.size w2 (.slice a6 (a + (n - (a + 1))) c6) (keys.eraseIdx a)) ∧ Hid (Below W.heap.size W w2)) := by
        have e : n - (a + 1) = m2 := by rw [← Hm2.out, Hb1.out]
        rw [e]
        exact ⟨a2, c2, rfl, HF, Hb5⟩
      clear q0 q1 q2 q3 q4 q5 q6 hcap hcm hbn hm2 hm32
      go_wp2_with fail
      (refine HK.out _ _ _ _ _ _ _ _ _ _ _ ?_; exact HR.out)
  · have K2 : Hid (∀ w', Below W.heap.size W w' → Src Try.prog 1 24 (.slice (some ⟨g, b, none⟩) m2 (kc - b)) m2 ((keys.drop (a + 1)).flatMap rowText) w') := fun w' hb => (KB.out w' hb).2 hk
    clear KB
    go_region_law (first
      | ((refine step_append_src ?h1 (.const (.slice none 0 0)) (.tmp 203) 24 24 ?h2 SX 9 _ 1 16 Try.underlying24 info_text rfl (.slice none 0 0) 0 [] ?e1 (Hn.out _) (.slice (some ⟨g, 0, none⟩) a kc) a ((keys.take a).flatMap rowText) ?e2 (KA.out _ Hd.out) (by unfold maxLen; omega) (by omega) HSd.out ?_); (case h1 => rfl); (case h2 => rfl); (case e1 => simp [Act.eval, Act.put]); (case e2 => simp [Act.eval, Act.put]); intro v1 w1 ho1 hg1; obtain ⟨a1, c1, rfl⟩ := owns_slice ho1; have Hb4 := Lib.hid (HSf.out _ _ Hd.out hg1); (try simp only [Nat.zero_add, List.nil_append] at ho1); have Ho1 := Lib.hid ho1; clear ho1 hg1)
      | ((refine step_append_src ?h1 (.tmp 204) (.tmp 208) 24 24 ?h2 SX 9 _ 1 16 Try.underlying24 info_text rfl (.slice a1 a c1) a _ ?e1 Ho1.out (.slice (some ⟨g, b, none⟩) m2 (kc - b)) m2 _ ?e2 (K2.out _ Hb4.out) (by unfold maxLen; omega) (by omega) (HSl.out _ Hb4.out) ?_); (case h1 => rfl); (case h2 => rfl); (case e1 => simp [Act.eval, Act.put]); (case e2 => simp [Act.eval, Act.put]); intro v2 w2 ho2 hg2; obtain ⟨a2, c2, rfl⟩ := owns_slice ho2; have Hb5 : Hid (Below W.heap.size W w2) := Hb4.out.trans (below_own Ho1.out hg2 (by rw [hSX.out]; exact Nat.le_refl _) Hb4.out.size); have Ho2 := Lib.hid ho2; clear ho2 hg2))
    all_goals
      have HF : Hid (OwnT W.heap.size w2 (.slice a2 (a + m2) c2) (keys.eraseIdx a)) := by rw [hSX.out]; exact erase_row (by rw [← HN.out]; exact ha) (by rw [← HN.out, ← Hm2.out, Hb1.out]) Ho2.out
      have HR : Hid (∃ a6 c6, Value.slice a2 (a + m2) c2 = .slice a6 (a + (n - (a + 1))) c6 ∧ Hid (OwnT W.heap.size w2 (.slice a6 (a + (n - (a + 1))) c6) (keys.eraseIdx a)) ∧ Hid (Below W.heap.size W w2)) := by
        have e : n - (a + 1) = m2 := by rw [← Hm2.out, Hb1.out]
        rw [e]
        exact ⟨a2, c2, rfl, HF, Hb5⟩
      clear q0 q1 q2 q3 q4 q5 q6 hcap hcm hbn hm2 hm32
      go_wp2_with fail
      (refine HK.out _ _ _ _ _ _ _ _ _ _ _ ?_; exact HR.out)
end Go.Proofs.Ytfgmpfkbflpiaaa
