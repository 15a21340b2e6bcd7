/-
  KvMap: where things lie; the end of a round.
-/
import Derived.Test.YtfgmpfkbflpiaaaKw
import Derived.Test.YtfgmpfkbflpiaaaKv
import Derived.Test.YtfgmpfkbflpiaaaPce
import Derived.Deep.CutBlock
namespace Go.Proofs.Ytfgmpfkbflpiaaa
open Go.RowKit Wm Mm Dg Kv
set_option linter.unusedVariables false
set_option linter.unusedSimpArgs false

abbrev OwnT (S : Nat) (w : World) (v : Value) (l : List (List UInt8)) : Prop := w.ownsRow S 9 1 v l.length (l.flatMap rowText)
/-- a map, its keys and what was put there last, in rows of the law's own -/
structure MapW (S : Nat) (W : World) (pv kv vv : Value) (p : List PairP) (keys vals : List (List UInt8)) : Prop where
  hp : OwnP S W pv p
  hk : OwnT S W kv keys
  hv : OwnT S W vv vals
  ne : kv.ownBlock = none ∨ kv.ownBlock ≠ vv.ownBlock
theorem ne_flip {a b : Option Nat} (h : a = none ∨ a ≠ b) : b = none ∨ b ≠ a := by
  cases b with
  | none => exact Or.inl rfl
  | some g =>
    refine Or.inr (fun e => ?_)
    rcases h with h | h
    · rw [h] at e; cases e
    · exact h e.symm
theorem MapW.below {S : Nat} {W W' : World} {pv kv vv : Value} {p : List PairP} {keys vals : List (List UInt8)} (h : MapW S W pv kv vv p keys vals) (hb : Below W.heap.size W W') : MapW S W' pv kv vv p keys vals :=
  ⟨own_below h.hp hb, own_below h.hk hb, own_below h.hv hb, h.ne⟩
theorem MapW.next {S : Nat} {W W' : World} {pv pv' kv vv : Value} {p p' : List PairP} {keys vals : List (List UInt8)} (h : MapW S W pv kv vv p keys vals) (hS : S ≤ W.heap.size) (hb : Below W.heap.size W W') (ho : OwnP W.heap.size W' pv' p') : MapW S W' pv' kv vv p' keys vals :=
  ⟨own_base ho hS, own_below h.hk hb, own_below h.hv hb, h.ne⟩
theorem own_lt_size {w : World} {S size n : Nat} {e : TypeId} {v : Value} {xs : List Value} (h : w.ownsRow S e size v n xs) : ∀ g, v.ownBlock = some g → g < w.heap.size := fun g hg => (h.lt g hg).2
theorem MapW.pushK {S : Nat} {W W2 : World} {pv kv kv2 vv : Value} {p : List PairP} {keys vals : List (List UInt8)} {x : List UInt8} (h : MapW S W pv kv vv p keys vals)
    (ho : W2.ownsRow S 9 1 kv2 (keys.length + 1) (keys.flatMap rowText ++ [str x])) (hg : W.grownBy W2 kv.ownBlock) (hb : ∀ g, kv2.ownBlock = some g → kv.ownBlock = some g ∨ W.heap.size ≤ g) : MapW S W2 pv kv2 vv p (keys ++ [x]) vals := by
  refine ⟨h.hp.kept hg (own_ne h.hp h.hk (by decide)), ?_, h.hv.kept hg (ne_flip h.ne), ?_⟩
  · show World.ownsRow _ _ _ _ _ _ _
    rw [List.length_append, List.flatMap_append]
    exact ho
  · cases e : kv2.ownBlock with
    | none => exact Or.inl rfl
    | some g =>
      refine Or.inr (fun e2 => ?_)
      rcases hb g e with h1 | h1
      · rcases h.ne with h2 | h2
        · rw [h2] at h1; cases h1
        · exact h2 (h1.trans e2)
      · have := own_lt_size h.hv g e2.symm
        omega
theorem MapW.pushV {S : Nat} {W W2 : World} {pv kv vv vv2 : Value} {p : List PairP} {keys vals : List (List UInt8)} {x : List UInt8} (h : MapW S W pv kv vv p keys vals)
    (ho : W2.ownsRow S 9 1 vv2 (vals.length + 1) (vals.flatMap rowText ++ [str x])) (hg : W.grownBy W2 vv.ownBlock) (hb : ∀ g, vv2.ownBlock = some g → vv.ownBlock = some g ∨ W.heap.size ≤ g) : MapW S W2 pv kv vv2 p keys (vals ++ [x]) := by
  refine ⟨h.hp.kept hg (own_ne h.hp h.hv (by decide)), h.hk.kept hg h.ne, ?_, ne_flip ?_⟩
  · show World.ownsRow _ _ _ _ _ _ _
    rw [List.length_append, List.flatMap_append]
    exact ho
  · cases e : vv2.ownBlock with
    | none => exact Or.inl rfl
    | some g =>
      refine Or.inr (fun e2 => ?_)
      rcases hb g e with h1 | h1
      · rcases ne_flip h.ne with h2 | h2
        · rw [h2] at h1; cases h1
        · exact h2 (h1.trans e2)
      · have := own_lt_size h.hk g e2.symm
        omega
theorem flat_setT : ∀ (l : List (List UInt8)) (k : Nat) (v : List UInt8), (l.flatMap rowText).set k (str v) = (l.set k v).flatMap rowText
  | [], _, _ => rfl
  | a :: r, 0, v => rfl
  | a :: r, k + 1, v => by
    have := flat_setT r k v
    show str a :: (r.flatMap rowText).set k (str v) = str a :: (r.set k v).flatMap rowText
    rw [this]
theorem MapW.setV {S : Nat} {W : World} {pv kv : Value} {g n c : Nat} {p : List PairP} {keys vals : List (List UInt8)} (h : MapW S W pv kv (.slice (some ⟨g, 0, none⟩) n c) p keys vals) (hn : n = vals.length) (k : Nat) (x : List UInt8) :
    MapW S (W.setCell ⟨g, k, none⟩ (str x)) pv kv (.slice (some ⟨g, 0, none⟩) n c) p keys (vals.set k x) := by
  subst hn
  have hg := grown_setCell W ⟨g, k, none⟩ (str x)
  have hb : (Value.slice (some ⟨g, 0, none⟩) vals.length c).ownBlock = some g := by simp [Value.ownBlock]
  refine ⟨h.hp.kept hg ?_, h.hk.kept hg ?_, ?_, h.ne⟩
  · have := own_ne h.hp h.hv (by decide)
    rw [hb] at this
    exact this
  · have := h.ne
    rw [hb] at this
    exact this
  · show World.ownsRow _ _ _ _ _ _ _
    have h1 := own_put h.hv k (str x)
    rw [flat_setT] at h1
    rw [List.length_set]
    exact h1
theorem MapW.del {S : Nat} {W W1 W2 : World} {pv kv vv kv2 vv2 : Value} {p : List PairP} {keys vals keys2 vals2 : List (List UInt8)} (h : MapW S W pv kv vv p keys vals) (hS : S ≤ W.heap.size)
    (hb1 : Below W.heap.size W W1) (hk : OwnT W.heap.size W1 kv2 keys2) (hb2 : Below W1.heap.size W1 W2) (hv : OwnT W1.heap.size W2 vv2 vals2) : MapW S W2 pv kv2 vv2 p keys2 vals2 := by
  have hs1 := hb1.size
  refine ⟨own_below (own_below h.hp hb1) hb2, own_base (own_below hk hb2) hS, own_base hv (by omega), ?_⟩
  cases e : kv2.ownBlock with
  | none => exact Or.inl rfl
  | some g =>
    refine Or.inr (fun e2 => ?_)
    have h1 := own_lt_size hk g e
    have h2 := (hv.lt g e2.symm).1
    omega
theorem OwnT.txs {S : Nat} {w : World} {v : Value} {l : List (List UInt8)} (h : OwnT S w v l) : Txs (fun k => S ≤ k) w v l := own_txs h
/-- how a round ends -/
def MapEnd (S : Nat) (w0 wx : World) (i : Nat) (v5 v6 v7 : Value) : Prop :=
  ∃ (p : List PairP) (keys vals : List (List UInt8)), Hid (MapW S wx v5 v6 v7 p keys vals) ∧ Hid (MapInv p keys vals i) ∧ Hid (Below w0.heap.size w0 wx)
theorem own_some {S size : Nat} {e : TypeId} {w : World} {a : Option Addr} {n c : Nat} {xs : List Value} (h : w.ownsRow S e size (.slice a n c) n xs) (hn : 0 < n) : ∃ g, a = some ⟨g, 0, none⟩ := by
  rcases h.2 with ⟨hv, h0⟩ | ⟨g, c, cur, hv, _⟩
  · omega
  · injection hv with e1; exact ⟨g, e1⟩
set_option maxHeartbeats 4000000 in
set_option maxRecDepth 100000 in
theorem piece_m48 {v0 v1 v2 v3 v4 v5 v8 v9 v11 v12 v13 v14 v15 v16 v17 v18 v19 v20 v21 v22 v23 v24 v25 v26 v27 v28 v29 v30 v31 v32 v33 v34 v35 v36 v37 v38 v39 v40 v41 v42 v43 v44 v45 v46 v47 v48 v49 v50 v51 v52 v53 v54 v55 v56 v57 v58 v59 v60 v61 v62 v63 v64 v65 v66 v67 v68 v69 v70 v71 v72 v73 v74 v75 v76 v77 v78 v79 v80 v81 v82 v83 v84 v85 v86 v87 v88 v89 v90 v91 v92 v93 v94 v95 v96 v97 v98 v99 v100 v101 v102 v103 v104 v105 v106 v107 v108 v109 v110 v111 v112 v113 v114 v115 v116 v117 v118 v119 v120 v121 v122 v123 v124 v125 v126 v127 v128 v129 v130 v131 v132 v133 v134 v135 v136 v137 v138 v139 v140 v141 v142 v143 v144 v145 v146 v147 v148 v149 v150 v151 v152 v153 v154 v155 v156 v157 v158 v159 v160 v161 v162 v163 v164 v165 v166 v167 v168 v169 v170 v171 v172 v173 v174 v175 v176 v177 v178 v179 v180 v181 v182 v183 v184 v185 v186 v187 v188 v189 v190 v191 v192 v193 v194 v195 v196 v197 v198 v199 v200 v201 v202 v203 v204 v205 v206 v207 v208 v209 v210 v211 v212 v213 v214 v215 v216 v217 v218 v219 v220 v221 v222 v223 v224 v225 v226 v227 v228 v229 v230 v231 v232 v233 v234 v235 v236 v237 v238 v239 v240 v241 v242 v243 : Value} (S i n : Nat) (w0 W : World) (na ka va : Option Addr) (nc kc vc : Nat) (p : List PairP) (keys vals : List (List UInt8))
    (HM : Hid (MapW S W (.slice na n nc) (.slice ka n kc) (.slice va n vc) p keys vals)) (HI : Hid (MapInv p keys vals (i + 1))) (hn : n = keys.length) (hS : S ≤ W.heap.size) (HB : Hid (Below w0.heap.size w0 W))
    (K : Act → World → Prop)
    (HK : Hid (∀ (u2 u5 u18 u19 u20 u210 u211 u212 u213 u214 u215 u216 u217 u218 u219 u220 u221 u222 u223 u224 u225 u226 u227 u228 u229 u230 u231 u232 u233 u234 u235 u236 u237 u238 u239 u240 u241 u242 u243 : Value) (wx : World), MapEnd S w0 wx (i + 1) u5 (.slice ka n kc) (.slice va n vc) → K ⟨#[v0, v1, u2, v3, v4, u5, .slice ka n kc, .slice va n vc, v8, v9, .slice na n nc, v11, v12, v13, v14, v15, v16, v17, u18, u19, u20, v21, v22, v23, v24, v25, v26, v27, v28, v29, v30, v31, v32, v33, v34, v35, v36, v37, v38, v39, v40, v41, v42, v43, v44, v45, v46, v47, v48, v49, v50, v51, v52, v53, v54, v55, v56, v57, v58, v59, v60, v61, v62, v63, v64, v65, v66, v67, v68, v69, v70, v71, v72, v73, v74, v75, v76, v77, v78, v79, v80, v81, v82, v83, v84, v85, v86, v87, v88, v89, v90, v91, v92, v93, v94, v95, v96, v97, v98, v99, v100, v101, v102, v103, v104, v105, v106, v107, v108, v109, v110, v111, v112, v113, v114, v115, v116, v117, v118, v119, v120, v121, v122, v123, v124, v125, v126, v127, v128, v129, v130, v131, v132, v133, v134, v135, v136, v137, v138, v139, v140, v141, v142, v143, v144, v145, v146, v147, v148, v149, v150, v151, v152, v153, v154, v155, v156, v157, v158, v159, v160, v161, v162, v163, v164, v165, v166, v167, v168, v169, v170, v171, v172, v173, v174, v175, v176, v177, v178, v179, v180, v181, v182, v183, v184, v185, v186, v187, v188, v189, v190, v191, v192, v193, v194, v195, v196, v197, v198, v199, v200, v201, v202, v203, v204, v205, v206, v207, v208, v209, u210, u211, u212, u213, u214, u215, u216, u217, u218, u219, u220, u221, u222, u223, u224, u225, u226, u227, u228, u229, u230, u231, u232, u233, u234, u235, u236, u237, u238, u239, u240, u241, u242, u243], []⟩ wx)) :
    Code.wp Try.prog ((Try.f4.body.bind (seqAt 48)).getD .skip) (Exit.then K fun _ _ _ => False) ⟨#[v0, v1, v2, v3, v4, v5, .slice ka n kc, .slice va n vc, v8, v9, .slice na n nc, v11, v12, v13, v14, v15, v16, v17, v18, v19, v20, v21, v22, v23, v24, v25, v26, v27, v28, v29, v30, v31, v32, v33, v34, v35, v36, v37, v38, v39, v40, v41, v42, v43, v44, v45, v46, v47, v48, v49, v50, v51, v52, v53, v54, v55, v56, v57, v58, v59, v60, v61, v62, v63, v64, v65, v66, v67, v68, v69, v70, v71, v72, v73, v74, v75, v76, v77, v78, v79, v80, v81, v82, v83, v84, v85, v86, v87, v88, v89, v90, v91, v92, v93, v94, v95, v96, v97, v98, v99, v100, v101, v102, v103, v104, v105, v106, v107, v108, v109, v110, v111, v112, v113, v114, v115, v116, v117, v118, v119, v120, v121, v122, v123, v124, v125, v126, v127, v128, v129, v130, v131, v132, v133, v134, v135, v136, v137, v138, v139, v140, v141, v142, v143, v144, v145, v146, v147, v148, v149, v150, v151, v152, v153, v154, v155, v156, v157, v158, v159, v160, v161, v162, v163, v164, v165, v166, v167, v168, v169, v170, v171, v172, v173, v174, v175, v176, v177, v178, v179, v180, v181, v182, v183, v184, v185, v186, v187, v188, v189, v190, v191, v192, v193, v194, v195, v196, v197, v198, v199, v200, v201, v202, v203, v204, v205, v206, v207, v208, v209, v210, v211, v212, v213, v214, v215, v216, v217, v218, v219, v220, v221, v222, v223, v224, v225, v226, v227, v228, v229, v230, v231, v232, v233, v234, v235, v236, v237, v238, v239, v240, v241, v242, v243], []⟩ W := by
  conv => arg 2; whnf
  have Hn := Lib.hid hn
  have Hpl : Hid (p.length = n) := by show _ = _; rw [Hn.out]; exact HI.out.len
  have Hvl : Hid (vals.length = n) := by show _ = _; rw [Hn.out]; exact HI.out.vlen
  have hn32 : n ≤ 32 := by rw [← Hpl.out]; exact HI.out.ok.n
  have HMw : Hid (∀ w', Below W.heap.size W w' → MapW S w' (.slice na n nc) (.slice ka n kc) (.slice va n vc) p keys vals) := fun w' hb => HM.out.below hb
  clear hn
  go_wp2_with fail
  go_loopw [18] (fun s18 wr => ∃ k : Nat, s18 = .int .i64 k ∧ k ≤ n ∧ Hid (Below W.heap.size W wr)) (fun s18 _ => n - (intOf s18).toNat)
  case atStart => exact ⟨0, rfl, Nat.zero_le _, Below.refl _ _⟩
  case round =>
    obtain ⟨k, rfl, hk, hb⟩ := hrel
    by_cases hlt : k < n
    · have hkl : k < keys.length := by rw [← Hn.out]; exact hlt
      have hkv : k < vals.length := by rw [Hvl.out]; exact hlt
      have hM := HMw.out _ hb.out
      have hkx : Txs (fun g => S ≤ g) wr (.slice ka n kc) keys := by have h := OwnT.txs hM.hk; exact h
      have hvx : Txs (fun g => S ≤ g) wr (.slice va n vc) vals := by have h := OwnT.txs hM.hv; exact h
      obtain ⟨gk, ok, rfl, ck⟩ := Sl.txt hkx hkl
      obtain ⟨gv, ov, rfl, cv⟩ := Sl.txt hvx hkv
      have hget := map_get HI.out hkl
      have hvd : vals.getD k [] = vals[k] := by rw [List.getD_eq_getElem?_getD, List.getElem?_eq_getElem hkv]; rfl
      rw [hvd] at hget
      have HVx : Hid (∀ w', Below W.heap.size W w' → w'.cell? ⟨gv, ov + k, none⟩ = some (str vals[k])) := fun w' hb' => by
        have hvx2 : Txs (fun g => S ≤ g) w' (.slice (some ⟨gv, ov, none⟩) n vc) vals := OwnT.txs (HMw.out _ hb').hv
        obtain ⟨g2, o2, e, c2⟩ := Sl.txt hvx2 hkv
        injection e with e
        injection e with e1 e2
        subst e1 e2
        exact c2
      have HPr : Hid (Prs (fun g => S ≤ g) wr (.slice na n nc) p) := OwnP.prs hM.hp
      have KA := Lib.hid (apply_law ⟨2, keys[k], [], 0⟩ _ p _ wr HPr.out (by rw [Hpl.out]; omega))
      obtain ⟨x, hx⟩ := hide keys[k]
      obtain ⟨y, hy⟩ := hide vals[k]
      rw [hx.out] at ck hget KA
      rw [hy.out] at cv hget
      simp only [hy.out] at HVx
      have Hget := Lib.hid hget
      have hki : (k : Int) < (n : Int) := by omega
      clear hM hkx hvx hget hvd cv
      go_wp2_with fail
      refine KA.out.mono ?_
      rintro e W1 hpost
      unfold ApplyPost at hpost
      rw [Hget.out] at hpost
      obtain ⟨av, kv, rfl, ho1, hk1, hb1⟩ := hpost
      dsimp only at ho1 hk1 ⊢
      obtain ⟨a1, c1, rfl⟩ := owns_slice ho1
      obtain ⟨a2, c2, rfl⟩ := owns_slice hk1
      have Hb1 : Hid (Below W.heap.size W W1) := hb.out.trans (hb1.mono hb.out.size)
      obtain ⟨ver, hver⟩ := hide (oldK p x).ver
      rw [hver.out]
      obtain ⟨W2, hW2⟩ := hide (W1.alloc (.cells (rowRes 1 y ver (.slice a2 0 c2)).toArray 26))
      obtain ⟨T, hT⟩ := hide W1.heap.size
      have Hb2 : Hid (Below W.heap.size W W2) := by show Below _ _ _; rw [← hW2.out]; exact Hb1.out.alloc Hb1.out.size _
      have HT2 : Hid (W2.heap[T]? = some (.cells (rowRes 1 y ver (.slice a2 0 c2)).toArray 26 (0, 0))) := by show _ = _; rw [← hW2.out, ← hT.out]; exact hp_at _ _ rfl
      clear ho1 hk1 hb1 ck
      go_upto_region 55 with fail
      try simp only [List.length_nil]
      rw [hW2.out]
      rw [hT.out]
      have t0 := cell_n HT2.out 0 (v := .int .i64 1) rfl
      have t1 := cell_n HT2.out 1 (v := str y) rfl
      have cv := HVx.out _ Hb2.out
      go_quiet (fail)
      go_wp2_with fail
      go_roundw
      case rel => exact ⟨k + 1, by go_num, hlt, below_drewN Hb2.out _⟩
      case measure => simp [intOf]; omega
    · have HF : Hid (MapEnd S w0 wr (i + 1) (.slice na n nc) (.slice ka n kc) (.slice va n vc)) := ⟨p, keys, vals, HMw.out _ hb.out, HI, HB.out.trans (hb.out.mono HB.out.size)⟩
      go_wp2_with fail
      (refine HK.out _ _ _ _ _ _ _ _ _ _ _ _ _ _ _ _ _ _ _ _ _ _ _ _ _ _ _ _ _ _ _ _ _ _ _ _ _ _ _ _ ?_; exact HF.out)
end Go.Proofs.Ytfgmpfkbflpiaaa
