/-
  The reference's changes of who votes: begun, done.
-/
import Derived.Test.YtgdmcbjlfnjhjaaCrf
import Derived.Test.YtgdmcbjlfnjhjaaNf
import Derived.Test.YtgdmcbjlfnjhjaaCj
import Derived.Test.YtgdmcbjlfnjhjaaPce
import Derived.Deep.CutRange
import Derived.Deep.DeepCutAuto
namespace Go.Proofs.Ytgdmcbjlfnjhjaa
open Go.RowKit Wm Mm
set_option linter.unusedVariables false
set_option linter.unusedSimpArgs false

theorem OwnJ.f {S : Nat} {w : World} {v : Value} {l : List Int} (h : OwnJ S w v l) : IntsF S w v l := IntsF.of_own h
/-- a configuration and an error are handed back, to be read -/
def GotR (w : World) (r : Int × Conf) (e : Ending) (w' : World) : Prop :=
  ∃ a b d, e = .returned (.tuple #[.agg #[a, b, d], .int .i64 r.1]) ∧ Config3 w' a b d r.2 ∧ Below w.heap.size w w'
/-- operations that are only read -/
def OpsR (w : World) (v : Value) (l : List OpP) : Prop :=
  ∃ ao cap, v = .slice ao l.length cap ∧ (l ≠ [] → ∃ b off, ao = some ⟨b, off, none⟩ ∧ ∀ j o, l[j]? = some o → w.cell? ⟨b, off + j * 2, none⟩ = some (.int .i64 o.kind) ∧ w.cell? ⟨b, off + j * 2 + 1, none⟩ = some (.int .i64 o.node)) ∧ l.length ≤ maxLen
theorem OpsR.mono {w w' : World} {v : Value} {l : List OpP} (h : OpsR w v l) (hb : Below w.heap.size w w') : OpsR w' v l := by
  obtain ⟨ao, cap, rfl, hc, hm⟩ := h
  refine ⟨ao, cap, rfl, fun hne => ?_, hm⟩
  obtain ⟨b, off, rfl, hj⟩ := hc hne
  refine ⟨b, off, rfl, fun j o ho => ?_⟩
  obtain ⟨h1, h2⟩ := hj j o ho
  exact ⟨(hb.cell (p := ⟨b, off + j * 2, none⟩) (lt_of_cell h1)).trans h1, (hb.cell (p := ⟨b, off + j * 2 + 1, none⟩) (lt_of_cell h2)).trans h2⟩
theorem rising_lenR {l : List Int} (h : risingB l = true) : l.length ≤ 9 := by
  obtain ⟨hs, hb⟩ := rising_iff.1 h
  have key : ∀ i (hi : i < l.length), (i : Int) + 1 ≤ l[i] := by
    intro i
    induction i with
    | zero => intro hi; have := (hb l[0] (List.getElem_mem hi)).1; simpa using this
    | succ i ih =>
      intro hi
      have h1 := ih (by omega)
      have h2 : l[i] < l[i + 1] := List.pairwise_iff_getElem.1 hs i (i + 1) (by omega) hi (by omega)
      omega
  by_cases h0 : l.length = 0
  · omega
  · have h1 := key (l.length - 1) (by omega)
    have h2 := (hb l[l.length - 1] (List.getElem_mem (by omega))).2
    omega
theorem outP_zero {l : List Int} (h : risingB l = true) : outP 0 l = l := by
  unfold outP
  refine List.filter_eq_self.2 (fun x hx => ?_)
  have := (rising_iff.1 h).2 x hx
  have e : (x == 0) = false := beq_eq_false_iff_ne.2 (by omega)
  rw [e]; rfl
set_option maxHeartbeats 4000000 in
set_option maxRecDepth 100000 in
theorem refBegin_end {v0 v1 v3 v5 v6 v9 v10 v11 v12 v13 v14 v15 v16 v17 v18 v19 v20 v21 v22 v23 v24 v25 v26 v27 v28 v29 v30 v31 v32 v33 v34 v35 v36 v37 v38 v39 v40 v41 v42 v43 v44 v45 v46 v47 v48 v49 v50 v51 v52 v53 v54 v55 v56 v57 v58 v59 v60 v61 v62 v63 v64 v65 v66 v67 v68 v69 v70 v71 v72 v73 v74 v75 v76 v77 v78 v79 v80 v81 v82 v83 v84 v85 v86 v87 v88 v89 v90 v91 v92 v93 v94 v95 v96 v97 v98 v99 v100 v101 v102 v103 v104 v105 v106 v107 v108 v109 v110 v111 v112 v113 v114 v115 v116 v117 v118 v119 v120 v121 v122 v123 v124 v125 v126 v127 v128 v129 v130 v131 v132 v133 v134 v135 v136 v137 v138 v139 v140 v141 v142 v143 v144 v145 v146 v147 v148 v149 : Value} (a b d : Value) (c : Conf) (ops : List OpP) (B : Nat) (w W : World) (post : Ending → World → Prop) (r : Int × Conf)
    (HP : Hid (GotR w r = post)) (hB : Hid (w.heap.size = B)) (Hws : Hid (B + 1 < W.heap.size))
    (Hx : Hid (∀ w', Below W.heap.size W w' → w'.heap[B]? = some (.cells #[a, b, d] 25 (0, 0)) ∧ w'.heap[B + 1]? = some (.cells #[.slice none 0 0, .slice none 0 0, .slice none 0 0] 25 (0, 0)) ∧ Below B w w'))
    (Hc : Hid (∀ w', Below B w w' → Config3 w' a b d c)) (av : Option Addr) (cv : Nat) (hav : Hid (a = .slice av c.v.length cv))
    (V : World) (HV : Hid (Below W.heap.size W V)) (s1 s2 : List Int) (a6 a7 : Option Addr) (c6 c7 : Nat) (H6 : Hid (IntsF W.heap.size V (.slice a6 s1.length c6) s1)) (H7 : Hid (IntsF W.heap.size V (.slice a7 s2.length c7) s2))
    (Hr0 : Hid (r = if s1.length = 0 then (8, noC) else if s1 = c.v then (0, ⟨s1, [], s2⟩) else (0, ⟨c.v, s1, s2⟩))) :
    Code.wp Try.prog ((Try.f45.body.bind (seqAt 28)).getD .skip) (bodyPost Try.prog Try.f45 post) ⟨#[v0, v1, .pointer (some ⟨B, 0, none⟩), v3, .pointer (some ⟨B + 1, 0, none⟩), v5, v6, .slice a6 s1.length c6, .slice a7 s2.length c7, v9, v10, v11, v12, v13, v14, v15, v16, v17, v18, v19, v20, v21, v22, v23, v24, v25, v26, v27, v28, v29, v30, v31, v32, v33, v34, v35, v36, v37, v38, v39, v40, v41, v42, v43, v44, v45, v46, v47, v48, v49, v50, v51, v52, v53, v54, v55, v56, v57, v58, v59, v60, v61, v62, v63, v64, v65, v66, v67, v68, v69, v70, v71, v72, v73, v74, v75, v76, v77, v78, v79, v80, v81, v82, v83, v84, v85, v86, v87, v88, v89, v90, v91, v92, v93, v94, v95, v96, v97, v98, v99, v100, v101, v102, v103, v104, v105, v106, v107, v108, v109, v110, v111, v112, v113, v114, v115, v116, v117, v118, v119, v120, v121, v122, v123, v124, v125, v126, v127, v128, v129, v130, v131, v132, v133, v134, v135, v136, v137, v138, v139, v140, v141, v142, v143, v144, v145, v146, v147, v148, v149], []⟩ V := by
  conv => arg 2; whnf
  have n0 : ((s1.length : Int) == 0) = decide (s1.length = 0) := by
    by_cases h : s1.length = 0
    · rw [h]; rfl
    · rw [decide_eq_false h]; exact beq_eq_false_iff_ne.2 (by omega)
  obtain ⟨z0, hz0⟩ := hide (decide (s1.length = 0))
  rw [hz0.out] at n0
  have x0 := (Hx.out _ HV.out).1
  have c0 : V.cell? ⟨B, 0, none⟩ = some a := cell_n x0 0 rfl
  have HE := Lib.hid (ref_sameInts (.slice a6 s1.length c6) a s1 c.v V H6.out.ints (Hc.out _ (Hx.out _ HV.out).2.2).v)
  obtain ⟨z1, hz1⟩ := hide (decide (s1 = c.v))
  rw [hz1.out] at HE
  clear x0
  go_wp2_with fail
  refine HE.out.mono ?_
  rintro e V2 ⟨rfl, hb⟩
  have HV2 := Lib.hid (HV.out.trans (hb.mono HV.out.size))
  have J6 := Lib.hid (H6.out.up (Up.ofBelow hb) (Nat.le_refl _))
  have J7 := Lib.hid (H7.out.up (Up.ofBelow hb) (Nat.le_refl _))
  clear hb c0
  cases z0 with
  | true =>
    have Hr : Hid (r = (8, noC)) := by show _ = _; rw [Hr0.out, if_pos (of_decide_eq_true hz0.out)]
    have y1 := (Hx.out _ HV2.out).2.1
    have q0 : V2.cell? ⟨B + 1, 0, none⟩ = some (.slice none 0 0) := cell_n y1 0 rfl
    have q1 : V2.cell? ⟨B + 1, 1, none⟩ = some (.slice none 0 0) := cell_n y1 1 rfl
    have q2 : V2.cell? ⟨B + 1, 2, none⟩ = some (.slice none 0 0) := cell_n y1 2 rfl
    have f0 := free_n y1 0
    have f1 := free_n y1 1
    have f2 := free_n y1 2
    have HE9 := Lib.hid (setAll_at (xs := [.slice none 0 0, .slice none 0 0, .slice none 0 0]) y1 [.slice none 0 0, .slice none 0 0, .slice none 0 0] rfl)
    have HB9 := Lib.hid (setAll_below (Hx.out _ HV2.out).2.2 (Nat.le_succ B) [.slice none 0 0, .slice none 0 0, .slice none 0 0])
    have hu := Up.setAll W.heap.size V2 Hws.out [.slice none 0 0, .slice none 0 0, .slice none 0 0]
    have HC9 : Hid (Config3 (setAll V2 (B + 1) [.slice none 0 0, .slice none 0 0, .slice none 0 0]) (.slice none 0 0) (.slice none 0 0) (.slice none 0 0) noC) := (Config3F.nil 0 _).conf
    clear y1 hu
    go_wp2_with fail
    clear q0 q1 q2 f0 f1 f2
    change bodyPost _ _ _ Exit.ret _ (setAll V2 (B + 1) [.slice none 0 0, .slice none 0 0, .slice none 0 0])
    generalize setAll V2 (B + 1) [.slice none 0 0, .slice none 0 0, .slice none 0 0] = W9 at HE9 HB9 HC9 ⊢
    have e0 : W9.cell? ⟨B + 1, 0, none⟩ = some _ := cell_n HE9.out 0 rfl
    have e1 : W9.cell? ⟨B + 1, 1, none⟩ = some _ := cell_n HE9.out 1 rfl
    have e2 : W9.cell? ⟨B + 1, 2, none⟩ = some _ := cell_n HE9.out 2 rfl
    refine bodyPost_ret (by simp [results, Try.results45, go_sem, e0, e1, e2]; rfl) rfl ?_
    rw [← HP.out]
    exact ⟨_, _, _, by rw [Hr.out], by rw [Hr.out]; exact HC9.out, by rw [hB.out]; exact HB9.out⟩
  | false =>
  have Hr1 : Hid (r = if s1 = c.v then (0, ⟨s1, [], s2⟩) else (0, ⟨c.v, s1, s2⟩)) := by show _ = _; rw [Hr0.out, if_neg (of_decide_eq_false hz0.out)]
  cases z1 with
  | true =>
    have Hr : Hid (r = (0, ⟨s1, [], s2⟩)) := by show _ = _; rw [Hr1.out, if_pos (of_decide_eq_true hz1.out)]
    have y1 := (Hx.out _ HV2.out).2.1
    have q0 : V2.cell? ⟨B + 1, 0, none⟩ = some (.slice none 0 0) := cell_n y1 0 rfl
    have q1 : V2.cell? ⟨B + 1, 1, none⟩ = some (.slice none 0 0) := cell_n y1 1 rfl
    have q2 : V2.cell? ⟨B + 1, 2, none⟩ = some (.slice none 0 0) := cell_n y1 2 rfl
    have f0 := free_n y1 0
    have f1 := free_n y1 1
    have f2 := free_n y1 2
    have HE9 := Lib.hid (setAll_at (xs := [.slice none 0 0, .slice none 0 0, .slice none 0 0]) y1 [.slice a6 s1.length c6, .slice none 0 0, .slice a7 s2.length c7] rfl)
    have HB9 := Lib.hid (setAll_below (Hx.out _ HV2.out).2.2 (Nat.le_succ B) [.slice a6 s1.length c6, .slice none 0 0, .slice a7 s2.length c7])
    have hu := Up.setAll W.heap.size V2 Hws.out [.slice a6 s1.length c6, .slice none 0 0, .slice a7 s2.length c7]
    have HC9 : Hid (Config3 (setAll V2 (B + 1) [.slice a6 s1.length c6, .slice none 0 0, .slice a7 s2.length c7]) (.slice a6 s1.length c6) (.slice none 0 0) (.slice a7 s2.length c7) ⟨s1, [], s2⟩) := ⟨(J6.out.up hu (Nat.le_refl _)).ints, (IntsF.nil 0 _).ints, (J7.out.up hu (Nat.le_refl _)).ints⟩
    clear y1 hu
    go_wp2_with fail
    clear q0 q1 q2 f0 f1 f2
    change bodyPost _ _ _ Exit.ret _ (setAll V2 (B + 1) [.slice a6 s1.length c6, .slice none 0 0, .slice a7 s2.length c7])
    generalize setAll V2 (B + 1) [.slice a6 s1.length c6, .slice none 0 0, .slice a7 s2.length c7] = W9 at HE9 HB9 HC9 ⊢
    have e0 : W9.cell? ⟨B + 1, 0, none⟩ = some _ := cell_n HE9.out 0 rfl
    have e1 : W9.cell? ⟨B + 1, 1, none⟩ = some _ := cell_n HE9.out 1 rfl
    have e2 : W9.cell? ⟨B + 1, 2, none⟩ = some _ := cell_n HE9.out 2 rfl
    refine bodyPost_ret (by simp [results, Try.results45, go_sem, e0, e1, e2]; rfl) rfl ?_
    rw [← HP.out]
    exact ⟨_, _, _, by rw [Hr.out], by rw [Hr.out]; exact HC9.out, by rw [hB.out]; exact HB9.out⟩
  | false =>
    have Hr : Hid (r = (0, ⟨c.v, s1, s2⟩)) := by show _ = _; rw [Hr1.out, if_neg (of_decide_eq_false hz1.out)]
    obtain rfl := hav.out
    have x0 := (Hx.out _ HV2.out).1
    have c0 : V2.cell? ⟨B, 0, none⟩ = some (.slice av c.v.length cv) := cell_n x0 0 rfl
    clear x0
    have y1 := (Hx.out _ HV2.out).2.1
    have q0 : V2.cell? ⟨B + 1, 0, none⟩ = some (.slice none 0 0) := cell_n y1 0 rfl
    have q1 : V2.cell? ⟨B + 1, 1, none⟩ = some (.slice none 0 0) := cell_n y1 1 rfl
    have q2 : V2.cell? ⟨B + 1, 2, none⟩ = some (.slice none 0 0) := cell_n y1 2 rfl
    have f0 := free_n y1 0
    have f1 := free_n y1 1
    have f2 := free_n y1 2
    have HE9 := Lib.hid (setAll_at (xs := [.slice none 0 0, .slice none 0 0, .slice none 0 0]) y1 [.slice av c.v.length cv, .slice a6 s1.length c6, .slice a7 s2.length c7] rfl)
    have HB9 := Lib.hid (setAll_below (Hx.out _ HV2.out).2.2 (Nat.le_succ B) [.slice av c.v.length cv, .slice a6 s1.length c6, .slice a7 s2.length c7])
    have hu := Up.setAll W.heap.size V2 Hws.out [.slice av c.v.length cv, .slice a6 s1.length c6, .slice a7 s2.length c7]
    have HC9 : Hid (Config3 (setAll V2 (B + 1) [.slice av c.v.length cv, .slice a6 s1.length c6, .slice a7 s2.length c7]) (.slice av c.v.length cv) (.slice a6 s1.length c6) (.slice a7 s2.length c7) ⟨c.v, s1, s2⟩) := ⟨(Hc.out _ HB9.out).v, (J6.out.up hu (Nat.le_refl _)).ints, (J7.out.up hu (Nat.le_refl _)).ints⟩
    clear y1 hu
    go_wp2_with fail
    clear q0 q1 q2 f0 f1 f2
    change bodyPost _ _ _ Exit.ret _ (setAll V2 (B + 1) [.slice av c.v.length cv, .slice a6 s1.length c6, .slice a7 s2.length c7])
    generalize setAll V2 (B + 1) [.slice av c.v.length cv, .slice a6 s1.length c6, .slice a7 s2.length c7] = W9 at HE9 HB9 HC9 ⊢
    have e0 : W9.cell? ⟨B + 1, 0, none⟩ = some _ := cell_n HE9.out 0 rfl
    have e1 : W9.cell? ⟨B + 1, 1, none⟩ = some _ := cell_n HE9.out 1 rfl
    have e2 : W9.cell? ⟨B + 1, 2, none⟩ = some _ := cell_n HE9.out 2 rfl
    refine bodyPost_ret (by simp [results, Try.results45, go_sem, e0, e1, e2]; rfl) rfl ?_
    rw [← HP.out]
    exact ⟨_, _, _, by rw [Hr.out], by rw [Hr.out]; exact HC9.out, by rw [hB.out]; exact HB9.out⟩
set_option maxHeartbeats 4000000 in
set_option maxRecDepth 100000 in
theorem refBegin_loop {v0 v3 v5 v6 v9 v10 v11 v12 v13 v14 v15 v16 v17 v18 v19 v20 v21 v22 v23 v24 v25 v26 v27 v28 v29 v30 v31 v32 v33 v34 v35 v36 v37 v38 v39 v40 v41 v42 v43 v44 v45 v46 v47 v48 v49 v50 v51 v52 v53 v54 v55 v56 v57 v58 v59 v60 v61 v62 v63 v64 v65 v66 v67 v68 v69 v70 v71 v72 v73 v74 v75 v76 v77 v78 v79 v80 v81 v82 v83 v84 v85 v86 v87 v88 v89 v90 v91 v92 v93 v94 v95 v96 v97 v98 v99 v100 v101 v102 v103 v104 v105 v106 v107 v108 v109 v110 v111 v112 v113 v114 v115 v116 v117 v118 v119 v120 v121 v122 v123 v124 v125 v126 v127 v128 v129 v130 v131 v132 v133 v134 v135 v136 v137 v138 v139 v140 v141 v142 v143 v144 v145 v146 v147 v148 v149 : Value} (a b d : Value) (c : Conf) (ops : List OpP) (B : Nat) (w W : World) (post : Ending → World → Prop) (r : Int × Conf)
    (HP : Hid (GotR w r = post)) (hB : Hid (w.heap.size = B)) (Hws : Hid (B + 1 < W.heap.size))
    (Hx : Hid (∀ w', Below W.heap.size W w' → w'.heap[B]? = some (.cells #[a, b, d] 25 (0, 0)) ∧ w'.heap[B + 1]? = some (.cells #[.slice none 0 0, .slice none 0 0, .slice none 0 0] 25 (0, 0)) ∧ Below B w w'))
    (Hc : Hid (∀ w', Below B w w' → Config3 w' a b d c)) (av : Option Addr) (cv : Nat) (hav : Hid (a = .slice av c.v.length cv))
    (V : World) (HV : Hid (Below W.heap.size W V)) (v7 v8 : Value) (ao : Option Addr) (co : Nat) (H6 : Hid (IntsF W.heap.size V v7 c.v)) (H7 : Hid (IntsF W.heap.size V v8 c.l))
    (hol : ops.length ≤ 1099511627776) (Hi0 : Hid (InvO c.v (c.v, c.l)))
    (HO : Hid (∀ w', Below W.heap.size W w' → ops ≠ [] → ∃ b off, ao = some ⟨b, off, none⟩ ∧ ∀ j o, ops[j]? = some o → w'.cell? ⟨b, off + j * 2, none⟩ = some (.int .i64 o.kind) ∧ w'.cell? ⟨b, off + j * 2 + 1, none⟩ = some (.int .i64 o.node)))
    (Hr0 : Hid (r = match opsP c.v ops (c.v, c.l) with | none => (8, noC) | some s => if s.1.length = 0 then (8, noC) else if s.1 = c.v then (0, ⟨s.1, [], s.2⟩) else (0, ⟨c.v, s.1, s.2⟩))) :
    Code.wp Try.prog ((Try.f45.body.bind (seqAt 10)).getD .skip) (bodyPost Try.prog Try.f45 post) ⟨#[v0, .slice ao ops.length co, .pointer (some ⟨B, 0, none⟩), v3, .pointer (some ⟨B + 1, 0, none⟩), v5, v6, v7, v8, v9, v10, v11, v12, v13, v14, v15, v16, v17, v18, v19, v20, v21, v22, v23, v24, v25, v26, v27, v28, v29, v30, v31, v32, v33, v34, v35, v36, v37, v38, v39, v40, v41, v42, v43, v44, v45, v46, v47, v48, v49, v50, v51, v52, v53, v54, v55, v56, v57, v58, v59, v60, v61, v62, v63, v64, v65, v66, v67, v68, v69, v70, v71, v72, v73, v74, v75, v76, v77, v78, v79, v80, v81, v82, v83, v84, v85, v86, v87, v88, v89, v90, v91, v92, v93, v94, v95, v96, v97, v98, v99, v100, v101, v102, v103, v104, v105, v106, v107, v108, v109, v110, v111, v112, v113, v114, v115, v116, v117, v118, v119, v120, v121, v122, v123, v124, v125, v126, v127, v128, v129, v130, v131, v132, v133, v134, v135, v136, v137, v138, v139, v140, v141, v142, v143, v144, v145, v146, v147, v148, v149], []⟩ V := by
  conv => arg 2; whnf
  go_wp2_with fail
  go_loopw [7, 8, 9] (fun v7 v8 i wr => ∃ (k : Nat) (s : List Int × List Int), i = .int .i64 k ∧ k ≤ ops.length ∧ Hid (IntsF W.heap.size wr v7 s.1) ∧ Hid (IntsF W.heap.size wr v8 s.2) ∧ Hid (Below W.heap.size W wr) ∧ Hid (InvO c.v s) ∧ Hid (opsP c.v (ops.drop k) s = opsP c.v ops (c.v, c.l))) (fun _ _ i _ => ops.length - (intOf i).toNat)
  case atStart => exact ⟨0, (c.v, c.l), rfl, Nat.zero_le _, H6, H7, HV, Hi0, by show _ = _; rw [List.drop_zero]⟩
  case round =>
    rename_i K1 hK1
    obtain ⟨k, s, rfl, hk, J6, J7, JV, JI, Hops⟩ := hrel
    by_cases hlt : k < ops.length
    · obtain ⟨blk, off, rfl, hcell⟩ := HO.out _ JV.out (fun h => by rw [h] at hlt; simp at hlt)
      obtain ⟨m0, m1⟩ := hcell k ops[k] (by simp [hlt])
      have Hdrop : Hid (ops.drop k = ops[k] :: ops.drop (k + 1)) := List.drop_eq_getElem_cons hlt
      obtain ⟨o, ho⟩ := hide ops[k]
      rw [ho.out] at m0 m1 Hdrop
      obtain ⟨kind, node⟩ := o
      have HnoneX : Hid (stepP c.v s ⟨kind, node⟩ = none → r = (8, noC)) := by
        show _ → _
        intro h
        have := Hops.out
        rw [Hdrop.out, opsP, h] at this
        rw [Hr0.out, ← this]
      have Hinv : Hid (∀ s1, stepP c.v s ⟨kind, node⟩ = some s1 → InvO c.v s1) := fun s1 h => JI.out.step h
      obtain ⟨a6, c6, rfl⟩ := J6.out.len
      obtain ⟨a7, c7, rfl⟩ := J7.out.len
      have HWsz : W.heap.size ≤ wr.heap.size := JV.out.size
      have HS1 : Hid (Calls Try.prog 72 #[.slice a6 s.1.length c6, .int .i64 node] wr fun e w'' => e = .returned (.bool (hasB s.1 node)) ∧ wr = w'') := ref_has _ _ _ _ J6.out.ints
      have HS2 : Hid (Calls Try.prog 72 #[.slice a7 s.2.length c7, .int .i64 node] wr fun e w'' => e = .returned (.bool (hasB s.2 node)) ∧ wr = w'') := ref_has _ _ _ _ J7.out.ints
      have HS3 : Hid (Calls Try.prog 72 #[a, .int .i64 node] wr fun e w'' => e = .returned (.bool (hasB c.v node)) ∧ wr = w'') := ref_has _ _ _ _ (Hc.out _ (Hx.out _ JV.out).2.2).v
      have HO6 : Hid (∀ w', Below wr.heap.size wr w' → Calls Try.prog 83 #[.slice a6 s.1.length c6, .int .i64 node] w' fun e w'' => ∃ v', e = .returned v' ∧ OwnJ w'.heap.size w'' v' (outP node s.1) ∧ Below w'.heap.size w' w'') := fun w' h => refBut_law _ _ _ _ (J6.out.ints.mono h) (by have := rising_lenR JI.out.a; omega)
      have HO7 : Hid (∀ w', Below wr.heap.size wr w' → Calls Try.prog 83 #[.slice a7 s.2.length c7, .int .i64 node] w' fun e w'' => ∃ v', e = .returned v' ∧ OwnJ w'.heap.size w'' v' (outP node s.2) ∧ Below w'.heap.size w' w'') := fun w' h => refBut_law _ _ _ _ (J7.out.ints.mono h) (by have := rising_lenR JI.out.b; omega)
      have Hdef : Hid (stepP c.v s ⟨kind, node⟩ = if node < 1 ∨ 9 < node then none else if kind = 1 ∧ hasB s.1 node = false then some (insP node s.1, outP node s.2)
        else if kind = 2 ∧ hasB s.1 node = false ∧ hasB s.2 node = false ∧ hasB c.v node = false then some (s.1, insP node s.2)
        else if kind = 3 ∧ (hasB s.1 node || hasB s.2 node) = true then some (outP node s.1, outP node s.2) else none) := rfl
      obtain ⟨z1, hZ1⟩ := hide (hasB s.1 node)
      obtain ⟨z2, hZ2⟩ := hide (hasB s.2 node)
      obtain ⟨z3, hZ3⟩ := hide (hasB c.v node)
      rw [hZ1.out] at HS1 Hdef
      rw [hZ2.out] at HS2 Hdef
      rw [hZ3.out] at HS3 Hdef
      have hk1 : k + 1 ≤ 9223372036854775807 := by omega
      have c0 : wr.cell? ⟨B, 0, none⟩ = some a := cell_n (Hx.out _ JV.out).1 0 rfl
      have d0 : True := trivial
      clear hcell
      go_wp2_with fail
      refine HS1.out.mono ?_
      rintro e w' ⟨rfl, rfl⟩
      go_wp2_with fail
      refine HS2.out.mono ?_
      rintro e w' ⟨rfl, rfl⟩
      go_wp2_with fail
      refine HS3.out.mono ?_
      rintro e w' ⟨rfl, rfl⟩
      by_cases h1 : node < 1
      · have t1 : decide (node < 1) = true := decide_eq_true h1
        have Hr := Lib.hid (HnoneX.out (by rw [Hdef.out, if_pos (Or.inl h1)]))
        clear h1
        have y1 := (Hx.out _ JV.out).2.1
        have q0 : wr.cell? ⟨B + 1, 0, none⟩ = some (.slice none 0 0) := cell_n y1 0 rfl
        have q1 : wr.cell? ⟨B + 1, 1, none⟩ = some (.slice none 0 0) := cell_n y1 1 rfl
        have q2 : wr.cell? ⟨B + 1, 2, none⟩ = some (.slice none 0 0) := cell_n y1 2 rfl
        have f0 := free_n y1 0
        have f1 := free_n y1 1
        have f2 := free_n y1 2
        have HE9 := Lib.hid (setAll_at (xs := [.slice none 0 0, .slice none 0 0, .slice none 0 0]) y1 [.slice none 0 0, .slice none 0 0, .slice none 0 0] rfl)
        have HB9 := Lib.hid (setAll_below (Hx.out _ JV.out).2.2 (Nat.le_succ B) [.slice none 0 0, .slice none 0 0, .slice none 0 0])
        have hu := Up.setAll W.heap.size wr Hws.out [.slice none 0 0, .slice none 0 0, .slice none 0 0]
        have HC9 : Hid (Config3 (setAll wr (B + 1) [.slice none 0 0, .slice none 0 0, .slice none 0 0]) (.slice none 0 0) (.slice none 0 0) (.slice none 0 0) noC) := (Config3F.nil 0 _).conf
        clear y1 hu
        go_wp2_with fail
        clear q0 q1 q2 f0 f1 f2
        change bodyPost _ _ _ Exit.ret _ (setAll wr (B + 1) [.slice none 0 0, .slice none 0 0, .slice none 0 0])
        generalize setAll wr (B + 1) [.slice none 0 0, .slice none 0 0, .slice none 0 0] = W9 at HE9 HB9 HC9 ⊢
        have e0 : W9.cell? ⟨B + 1, 0, none⟩ = some _ := cell_n HE9.out 0 rfl
        have e1 : W9.cell? ⟨B + 1, 1, none⟩ = some _ := cell_n HE9.out 1 rfl
        have e2 : W9.cell? ⟨B + 1, 2, none⟩ = some _ := cell_n HE9.out 2 rfl
        refine bodyPost_ret (by simp [results, Try.results45, go_sem, e0, e1, e2]; rfl) rfl ?_
        rw [← HP.out]
        exact ⟨_, _, _, by rw [Hr.out], by rw [Hr.out]; exact HC9.out, by rw [hB.out]; exact HB9.out⟩
      have t1 : decide (node < 1) = false := decide_eq_false h1
      by_cases h9 : 9 < node
      · have t9 : decide (9 < node) = true := decide_eq_true h9
        have Hr := Lib.hid (HnoneX.out (by rw [Hdef.out, if_pos (Or.inr h9)]))
        clear h1 h9
        have y1 := (Hx.out _ JV.out).2.1
        have q0 : wr.cell? ⟨B + 1, 0, none⟩ = some (.slice none 0 0) := cell_n y1 0 rfl
        have q1 : wr.cell? ⟨B + 1, 1, none⟩ = some (.slice none 0 0) := cell_n y1 1 rfl
        have q2 : wr.cell? ⟨B + 1, 2, none⟩ = some (.slice none 0 0) := cell_n y1 2 rfl
        have f0 := free_n y1 0
        have f1 := free_n y1 1
        have f2 := free_n y1 2
        have HE9 := Lib.hid (setAll_at (xs := [.slice none 0 0, .slice none 0 0, .slice none 0 0]) y1 [.slice none 0 0, .slice none 0 0, .slice none 0 0] rfl)
        have HB9 := Lib.hid (setAll_below (Hx.out _ JV.out).2.2 (Nat.le_succ B) [.slice none 0 0, .slice none 0 0, .slice none 0 0])
        have hu := Up.setAll W.heap.size wr Hws.out [.slice none 0 0, .slice none 0 0, .slice none 0 0]
        have HC9 : Hid (Config3 (setAll wr (B + 1) [.slice none 0 0, .slice none 0 0, .slice none 0 0]) (.slice none 0 0) (.slice none 0 0) (.slice none 0 0) noC) := (Config3F.nil 0 _).conf
        clear y1 hu
        go_wp2_with fail
        clear q0 q1 q2 f0 f1 f2
        change bodyPost _ _ _ Exit.ret _ (setAll wr (B + 1) [.slice none 0 0, .slice none 0 0, .slice none 0 0])
        generalize setAll wr (B + 1) [.slice none 0 0, .slice none 0 0, .slice none 0 0] = W9 at HE9 HB9 HC9 ⊢
        have e0 : W9.cell? ⟨B + 1, 0, none⟩ = some _ := cell_n HE9.out 0 rfl
        have e1 : W9.cell? ⟨B + 1, 1, none⟩ = some _ := cell_n HE9.out 1 rfl
        have e2 : W9.cell? ⟨B + 1, 2, none⟩ = some _ := cell_n HE9.out 2 rfl
        refine bodyPost_ret (by simp [results, Try.results45, go_sem, e0, e1, e2]; rfl) rfl ?_
        rw [← HP.out]
        exact ⟨_, _, _, by rw [Hr.out], by rw [Hr.out]; exact HC9.out, by rw [hB.out]; exact HB9.out⟩
      have t9 : decide (9 < node) = false := decide_eq_false h9
      have hin : ¬ (node < 1 ∨ 9 < node) := fun h => h.elim h1 h9
      have Hi1 := Lib.hid (show 1 ≤ node by omega)
      have Hi9 := Lib.hid (show node ≤ 9 by omega)
      have HW6 : Hid (∀ w', Below wr.heap.size wr w' → Calls Try.prog 84 #[.slice a6 s.1.length c6, .int .i64 node] w' fun e w'' => ∃ v', e = .returned v' ∧ OwnJ w'.heap.size w'' v' (insP node s.1) ∧ Below w'.heap.size w' w'') := by
        show ∀ w', _ → _
        intro w' h
        have := refWith_law _ s.1 node w' (J6.out.ints.mono h)
        rwa [nineP_ins JI.out.a Hi1.out Hi9.out] at this
      have HW7 : Hid (∀ w', Below wr.heap.size wr w' → Calls Try.prog 84 #[.slice a7 s.2.length c7, .int .i64 node] w' fun e w'' => ∃ v', e = .returned v' ∧ OwnJ w'.heap.size w'' v' (insP node s.2) ∧ Below w'.heap.size w' w'') := by
        show ∀ w', _ → _
        intro w' h
        have := refWith_law _ s.2 node w' (J7.out.ints.mono h)
        rwa [nineP_ins JI.out.b Hi1.out Hi9.out] at this
      clear h1 h9
      by_cases hk1 : kind = 1
      · subst hk1
        cases z1 with
        | true =>
          have Hr := Lib.hid (HnoneX.out (by rw [Hdef.out, if_neg hin, if_neg (by simp), if_neg (by simp), if_neg (by simp)]))
          have y1 := (Hx.out _ JV.out).2.1
          have q0 : wr.cell? ⟨B + 1, 0, none⟩ = some (.slice none 0 0) := cell_n y1 0 rfl
          have q1 : wr.cell? ⟨B + 1, 1, none⟩ = some (.slice none 0 0) := cell_n y1 1 rfl
          have q2 : wr.cell? ⟨B + 1, 2, none⟩ = some (.slice none 0 0) := cell_n y1 2 rfl
          have f0 := free_n y1 0
          have f1 := free_n y1 1
          have f2 := free_n y1 2
          have HE9 := Lib.hid (setAll_at (xs := [.slice none 0 0, .slice none 0 0, .slice none 0 0]) y1 [.slice none 0 0, .slice none 0 0, .slice none 0 0] rfl)
          have HB9 := Lib.hid (setAll_below (Hx.out _ JV.out).2.2 (Nat.le_succ B) [.slice none 0 0, .slice none 0 0, .slice none 0 0])
          have hu := Up.setAll W.heap.size wr Hws.out [.slice none 0 0, .slice none 0 0, .slice none 0 0]
          have HC9 : Hid (Config3 (setAll wr (B + 1) [.slice none 0 0, .slice none 0 0, .slice none 0 0]) (.slice none 0 0) (.slice none 0 0) (.slice none 0 0) noC) := (Config3F.nil 0 _).conf
          clear y1 hu
          go_wp2_with fail
          clear q0 q1 q2 f0 f1 f2
          change bodyPost _ _ _ Exit.ret _ (setAll wr (B + 1) [.slice none 0 0, .slice none 0 0, .slice none 0 0])
          generalize setAll wr (B + 1) [.slice none 0 0, .slice none 0 0, .slice none 0 0] = W9 at HE9 HB9 HC9 ⊢
          have e0 : W9.cell? ⟨B + 1, 0, none⟩ = some _ := cell_n HE9.out 0 rfl
          have e1 : W9.cell? ⟨B + 1, 1, none⟩ = some _ := cell_n HE9.out 1 rfl
          have e2 : W9.cell? ⟨B + 1, 2, none⟩ = some _ := cell_n HE9.out 2 rfl
          refine bodyPost_ret (by simp [results, Try.results45, go_sem, e0, e1, e2]; rfl) rfl ?_
          rw [← HP.out]
          exact ⟨_, _, _, by rw [Hr.out], by rw [Hr.out]; exact HC9.out, by rw [hB.out]; exact HB9.out⟩
        | false =>
          have Hst : Hid (stepP c.v s ⟨1, node⟩ = some (insP node s.1, outP node s.2)) := by show _ = _; rw [Hdef.out, if_neg hin, if_pos ⟨rfl, rfl⟩]
          clear hin
          go_wp2_with fail
          refine (HW6.out wr (Below.refl _ _)).mono ?_
          rintro e V3 ⟨v1, rfl, ho1, hb1⟩
          have hb1' := hb1
          obtain ⟨b6, e6, rfl⟩ := owns_slice ho1
          have H3 := Lib.hid hb1
          have G6a := Lib.hid ((ho1.f).base HWsz)
          clear ho1 hb1
          go_wp2_with fail
          refine (HO7.out V3 H3.out).mono ?_
          rintro e V4 ⟨v2, rfl, ho2, hb2⟩
          have G6 := Lib.hid (G6a.out.up (Up.ofBelow hb2) (Nat.le_refl _))
          have G7 := Lib.hid ((ho2.f).base (Nat.le_trans HWsz H3.out.size))
          have GV : Hid (Below W.heap.size W V4) := JV.out.trans ((H3.out.trans (hb2.mono H3.out.size)).mono HWsz)
          clear ho2 hb2
          clear d0 c0 m0 m1
          go_wp2_with fail
          go_roundw
          case rel => exact ⟨k + 1, (insP node s.1, outP node s.2), by go_num, hlt, G6, G7, GV, Hinv.out _ Hst.out, by show _ = _; rw [← Hops.out, Hdrop.out, opsP, Hst.out]⟩
          case measure => simp [intOf]; omega
      by_cases hk2 : kind = 2
      · subst hk2
        cases z1 with
        | true =>
          have Hr := Lib.hid (HnoneX.out (by rw [Hdef.out, if_neg hin, if_neg (by simp), if_neg (by simp), if_neg (by simp)]))
          have y1 := (Hx.out _ JV.out).2.1
          have q0 : wr.cell? ⟨B + 1, 0, none⟩ = some (.slice none 0 0) := cell_n y1 0 rfl
          have q1 : wr.cell? ⟨B + 1, 1, none⟩ = some (.slice none 0 0) := cell_n y1 1 rfl
          have q2 : wr.cell? ⟨B + 1, 2, none⟩ = some (.slice none 0 0) := cell_n y1 2 rfl
          have f0 := free_n y1 0
          have f1 := free_n y1 1
          have f2 := free_n y1 2
          have HE9 := Lib.hid (setAll_at (xs := [.slice none 0 0, .slice none 0 0, .slice none 0 0]) y1 [.slice none 0 0, .slice none 0 0, .slice none 0 0] rfl)
          have HB9 := Lib.hid (setAll_below (Hx.out _ JV.out).2.2 (Nat.le_succ B) [.slice none 0 0, .slice none 0 0, .slice none 0 0])
          have hu := Up.setAll W.heap.size wr Hws.out [.slice none 0 0, .slice none 0 0, .slice none 0 0]
          have HC9 : Hid (Config3 (setAll wr (B + 1) [.slice none 0 0, .slice none 0 0, .slice none 0 0]) (.slice none 0 0) (.slice none 0 0) (.slice none 0 0) noC) := (Config3F.nil 0 _).conf
          clear y1 hu
          go_wp2_with fail
          clear q0 q1 q2 f0 f1 f2
          change bodyPost _ _ _ Exit.ret _ (setAll wr (B + 1) [.slice none 0 0, .slice none 0 0, .slice none 0 0])
          generalize setAll wr (B + 1) [.slice none 0 0, .slice none 0 0, .slice none 0 0] = W9 at HE9 HB9 HC9 ⊢
          have e0 : W9.cell? ⟨B + 1, 0, none⟩ = some _ := cell_n HE9.out 0 rfl
          have e1 : W9.cell? ⟨B + 1, 1, none⟩ = some _ := cell_n HE9.out 1 rfl
          have e2 : W9.cell? ⟨B + 1, 2, none⟩ = some _ := cell_n HE9.out 2 rfl
          refine bodyPost_ret (by simp [results, Try.results45, go_sem, e0, e1, e2]; rfl) rfl ?_
          rw [← HP.out]
          exact ⟨_, _, _, by rw [Hr.out], by rw [Hr.out]; exact HC9.out, by rw [hB.out]; exact HB9.out⟩
        | false =>
        cases z2 with
        | true =>
          have Hr := Lib.hid (HnoneX.out (by rw [Hdef.out, if_neg hin, if_neg (by simp), if_neg (by simp), if_neg (by simp)]))
          have y1 := (Hx.out _ JV.out).2.1
          have q0 : wr.cell? ⟨B + 1, 0, none⟩ = some (.slice none 0 0) := cell_n y1 0 rfl
          have q1 : wr.cell? ⟨B + 1, 1, none⟩ = some (.slice none 0 0) := cell_n y1 1 rfl
          have q2 : wr.cell? ⟨B + 1, 2, none⟩ = some (.slice none 0 0) := cell_n y1 2 rfl
          have f0 := free_n y1 0
          have f1 := free_n y1 1
          have f2 := free_n y1 2
          have HE9 := Lib.hid (setAll_at (xs := [.slice none 0 0, .slice none 0 0, .slice none 0 0]) y1 [.slice none 0 0, .slice none 0 0, .slice none 0 0] rfl)
          have HB9 := Lib.hid (setAll_below (Hx.out _ JV.out).2.2 (Nat.le_succ B) [.slice none 0 0, .slice none 0 0, .slice none 0 0])
          have hu := Up.setAll W.heap.size wr Hws.out [.slice none 0 0, .slice none 0 0, .slice none 0 0]
          have HC9 : Hid (Config3 (setAll wr (B + 1) [.slice none 0 0, .slice none 0 0, .slice none 0 0]) (.slice none 0 0) (.slice none 0 0) (.slice none 0 0) noC) := (Config3F.nil 0 _).conf
          clear y1 hu
          go_wp2_with fail
          clear q0 q1 q2 f0 f1 f2
          change bodyPost _ _ _ Exit.ret _ (setAll wr (B + 1) [.slice none 0 0, .slice none 0 0, .slice none 0 0])
          generalize setAll wr (B + 1) [.slice none 0 0, .slice none 0 0, .slice none 0 0] = W9 at HE9 HB9 HC9 ⊢
          have e0 : W9.cell? ⟨B + 1, 0, none⟩ = some _ := cell_n HE9.out 0 rfl
          have e1 : W9.cell? ⟨B + 1, 1, none⟩ = some _ := cell_n HE9.out 1 rfl
          have e2 : W9.cell? ⟨B + 1, 2, none⟩ = some _ := cell_n HE9.out 2 rfl
          refine bodyPost_ret (by simp [results, Try.results45, go_sem, e0, e1, e2]; rfl) rfl ?_
          rw [← HP.out]
          exact ⟨_, _, _, by rw [Hr.out], by rw [Hr.out]; exact HC9.out, by rw [hB.out]; exact HB9.out⟩
        | false =>
        cases z3 with
        | true =>
          have Hr := Lib.hid (HnoneX.out (by rw [Hdef.out, if_neg hin, if_neg (by simp), if_neg (by simp), if_neg (by simp)]))
          have y1 := (Hx.out _ JV.out).2.1
          have q0 : wr.cell? ⟨B + 1, 0, none⟩ = some (.slice none 0 0) := cell_n y1 0 rfl
          have q1 : wr.cell? ⟨B + 1, 1, none⟩ = some (.slice none 0 0) := cell_n y1 1 rfl
          have q2 : wr.cell? ⟨B + 1, 2, none⟩ = some (.slice none 0 0) := cell_n y1 2 rfl
          have f0 := free_n y1 0
          have f1 := free_n y1 1
          have f2 := free_n y1 2
          have HE9 := Lib.hid (setAll_at (xs := [.slice none 0 0, .slice none 0 0, .slice none 0 0]) y1 [.slice none 0 0, .slice none 0 0, .slice none 0 0] rfl)
          have HB9 := Lib.hid (setAll_below (Hx.out _ JV.out).2.2 (Nat.le_succ B) [.slice none 0 0, .slice none 0 0, .slice none 0 0])
          have hu := Up.setAll W.heap.size wr Hws.out [.slice none 0 0, .slice none 0 0, .slice none 0 0]
          have HC9 : Hid (Config3 (setAll wr (B + 1) [.slice none 0 0, .slice none 0 0, .slice none 0 0]) (.slice none 0 0) (.slice none 0 0) (.slice none 0 0) noC) := (Config3F.nil 0 _).conf
          clear y1 hu
          go_wp2_with fail
          clear q0 q1 q2 f0 f1 f2
          change bodyPost _ _ _ Exit.ret _ (setAll wr (B + 1) [.slice none 0 0, .slice none 0 0, .slice none 0 0])
          generalize setAll wr (B + 1) [.slice none 0 0, .slice none 0 0, .slice none 0 0] = W9 at HE9 HB9 HC9 ⊢
          have e0 : W9.cell? ⟨B + 1, 0, none⟩ = some _ := cell_n HE9.out 0 rfl
          have e1 : W9.cell? ⟨B + 1, 1, none⟩ = some _ := cell_n HE9.out 1 rfl
          have e2 : W9.cell? ⟨B + 1, 2, none⟩ = some _ := cell_n HE9.out 2 rfl
          refine bodyPost_ret (by simp [results, Try.results45, go_sem, e0, e1, e2]; rfl) rfl ?_
          rw [← HP.out]
          exact ⟨_, _, _, by rw [Hr.out], by rw [Hr.out]; exact HC9.out, by rw [hB.out]; exact HB9.out⟩
        | false =>
          have Hst : Hid (stepP c.v s ⟨2, node⟩ = some (s.1, insP node s.2)) := by show _ = _; rw [Hdef.out, if_neg hin, if_neg (by simp), if_pos (by simp)]
          clear hin hk1
          go_wp2_with fail
          refine (HW7.out wr (Below.refl _ _)).mono ?_
          rintro e V4 ⟨v2, rfl, ho2, hb2⟩
          have G7 := Lib.hid ((ho2.f).base HWsz)
          have G6 := Lib.hid (J6.out.up (Up.ofBelow hb2) (Nat.le_refl _))
          have GV : Hid (Below W.heap.size W V4) := JV.out.trans (hb2.mono HWsz)
          clear ho2 hb2
          clear d0 c0 m0 m1
          go_wp2_with fail
          go_roundw
          case rel => exact ⟨k + 1, (s.1, insP node s.2), by go_num, hlt, G6, G7, GV, Hinv.out _ Hst.out, by show _ = _; rw [← Hops.out, Hdrop.out, opsP, Hst.out]⟩
          case measure => simp [intOf]; omega
      by_cases hk3 : kind = 3
      · subst hk3
        cases z1 with
        | true =>
          have Hst : Hid (stepP c.v s ⟨3, node⟩ = some (outP node s.1, outP node s.2)) := by show _ = _; rw [Hdef.out, if_neg hin, if_neg (by simp), if_neg (by simp), if_pos ⟨rfl, rfl⟩]
          clear hin hk1 hk2
          go_wp2_with fail
          refine (HO6.out wr (Below.refl _ _)).mono ?_
          rintro e V3 ⟨v1, rfl, ho1, hb1⟩
          have hb1' := hb1
          obtain ⟨b6, e6, rfl⟩ := owns_slice ho1
          have H3 := Lib.hid hb1
          have G6a := Lib.hid ((ho1.f).base HWsz)
          clear ho1 hb1
          go_wp2_with fail
          refine (HO7.out V3 H3.out).mono ?_
          rintro e V4 ⟨v2, rfl, ho2, hb2⟩
          have G6 := Lib.hid (G6a.out.up (Up.ofBelow hb2) (Nat.le_refl _))
          have G7 := Lib.hid ((ho2.f).base (Nat.le_trans HWsz H3.out.size))
          have GV : Hid (Below W.heap.size W V4) := JV.out.trans ((H3.out.trans (hb2.mono H3.out.size)).mono HWsz)
          clear ho2 hb2
          clear d0 c0 m0 m1
          go_wp2_with fail
          go_roundw
          case rel => exact ⟨k + 1, (outP node s.1, outP node s.2), by go_num, hlt, G6, G7, GV, Hinv.out _ Hst.out, by show _ = _; rw [← Hops.out, Hdrop.out, opsP, Hst.out]⟩
          case measure => simp [intOf]; omega
        | false =>
        cases z2 with
        | true =>
          have Hst : Hid (stepP c.v s ⟨3, node⟩ = some (outP node s.1, outP node s.2)) := by show _ = _; rw [Hdef.out, if_neg hin, if_neg (by simp), if_neg (by simp), if_pos ⟨rfl, rfl⟩]
          clear hin hk1 hk2
          go_wp2_with fail
          refine (HO6.out wr (Below.refl _ _)).mono ?_
          rintro e V3 ⟨v1, rfl, ho1, hb1⟩
          have hb1' := hb1
          obtain ⟨b6, e6, rfl⟩ := owns_slice ho1
          have H3 := Lib.hid hb1
          have G6a := Lib.hid ((ho1.f).base HWsz)
          clear ho1 hb1
          go_wp2_with fail
          refine (HO7.out V3 H3.out).mono ?_
          rintro e V4 ⟨v2, rfl, ho2, hb2⟩
          have G6 := Lib.hid (G6a.out.up (Up.ofBelow hb2) (Nat.le_refl _))
          have G7 := Lib.hid ((ho2.f).base (Nat.le_trans HWsz H3.out.size))
          have GV : Hid (Below W.heap.size W V4) := JV.out.trans ((H3.out.trans (hb2.mono H3.out.size)).mono HWsz)
          clear ho2 hb2
          clear d0 c0 m0 m1
          go_wp2_with fail
          go_roundw
          case rel => exact ⟨k + 1, (outP node s.1, outP node s.2), by go_num, hlt, G6, G7, GV, Hinv.out _ Hst.out, by show _ = _; rw [← Hops.out, Hdrop.out, opsP, Hst.out]⟩
          case measure => simp [intOf]; omega
        | false =>
          have Hr := Lib.hid (HnoneX.out (by rw [Hdef.out, if_neg hin, if_neg (by simp), if_neg (by simp), if_neg (by simp)]))
          have y1 := (Hx.out _ JV.out).2.1
          have q0 : wr.cell? ⟨B + 1, 0, none⟩ = some (.slice none 0 0) := cell_n y1 0 rfl
          have q1 : wr.cell? ⟨B + 1, 1, none⟩ = some (.slice none 0 0) := cell_n y1 1 rfl
          have q2 : wr.cell? ⟨B + 1, 2, none⟩ = some (.slice none 0 0) := cell_n y1 2 rfl
          have f0 := free_n y1 0
          have f1 := free_n y1 1
          have f2 := free_n y1 2
          have HE9 := Lib.hid (setAll_at (xs := [.slice none 0 0, .slice none 0 0, .slice none 0 0]) y1 [.slice none 0 0, .slice none 0 0, .slice none 0 0] rfl)
          have HB9 := Lib.hid (setAll_below (Hx.out _ JV.out).2.2 (Nat.le_succ B) [.slice none 0 0, .slice none 0 0, .slice none 0 0])
          have hu := Up.setAll W.heap.size wr Hws.out [.slice none 0 0, .slice none 0 0, .slice none 0 0]
          have HC9 : Hid (Config3 (setAll wr (B + 1) [.slice none 0 0, .slice none 0 0, .slice none 0 0]) (.slice none 0 0) (.slice none 0 0) (.slice none 0 0) noC) := (Config3F.nil 0 _).conf
          clear y1 hu
          go_wp2_with fail
          clear q0 q1 q2 f0 f1 f2
          change bodyPost _ _ _ Exit.ret _ (setAll wr (B + 1) [.slice none 0 0, .slice none 0 0, .slice none 0 0])
          generalize setAll wr (B + 1) [.slice none 0 0, .slice none 0 0, .slice none 0 0] = W9 at HE9 HB9 HC9 ⊢
          have e0 : W9.cell? ⟨B + 1, 0, none⟩ = some _ := cell_n HE9.out 0 rfl
          have e1 : W9.cell? ⟨B + 1, 1, none⟩ = some _ := cell_n HE9.out 1 rfl
          have e2 : W9.cell? ⟨B + 1, 2, none⟩ = some _ := cell_n HE9.out 2 rfl
          refine bodyPost_ret (by simp [results, Try.results45, go_sem, e0, e1, e2]; rfl) rfl ?_
          rw [← HP.out]
          exact ⟨_, _, _, by rw [Hr.out], by rw [Hr.out]; exact HC9.out, by rw [hB.out]; exact HB9.out⟩
      have e1 : (kind == 1) = false := beq_eq_false_iff_ne.2 hk1
      have e2 : (kind == 2) = false := beq_eq_false_iff_ne.2 hk2
      have e3 : (kind == 3) = false := beq_eq_false_iff_ne.2 hk3
      have Hr := Lib.hid (HnoneX.out (by rw [Hdef.out, if_neg hin, if_neg (fun h => hk1 h.1), if_neg (fun h => hk2 h.1), if_neg (fun h => hk3 h.1)]))
      clear hk1 hk2 hk3
      have y1 := (Hx.out _ JV.out).2.1
      have q0 : wr.cell? ⟨B + 1, 0, none⟩ = some (.slice none 0 0) := cell_n y1 0 rfl
      have q1 : wr.cell? ⟨B + 1, 1, none⟩ = some (.slice none 0 0) := cell_n y1 1 rfl
      have q2 : wr.cell? ⟨B + 1, 2, none⟩ = some (.slice none 0 0) := cell_n y1 2 rfl
      have f0 := free_n y1 0
      have f1 := free_n y1 1
      have f2 := free_n y1 2
      have HE9 := Lib.hid (setAll_at (xs := [.slice none 0 0, .slice none 0 0, .slice none 0 0]) y1 [.slice none 0 0, .slice none 0 0, .slice none 0 0] rfl)
      have HB9 := Lib.hid (setAll_below (Hx.out _ JV.out).2.2 (Nat.le_succ B) [.slice none 0 0, .slice none 0 0, .slice none 0 0])
      have hu := Up.setAll W.heap.size wr Hws.out [.slice none 0 0, .slice none 0 0, .slice none 0 0]
      have HC9 : Hid (Config3 (setAll wr (B + 1) [.slice none 0 0, .slice none 0 0, .slice none 0 0]) (.slice none 0 0) (.slice none 0 0) (.slice none 0 0) noC) := (Config3F.nil 0 _).conf
      clear y1 hu
      go_wp2_with fail
      clear q0 q1 q2 f0 f1 f2
      change bodyPost _ _ _ Exit.ret _ (setAll wr (B + 1) [.slice none 0 0, .slice none 0 0, .slice none 0 0])
      generalize setAll wr (B + 1) [.slice none 0 0, .slice none 0 0, .slice none 0 0] = W9 at HE9 HB9 HC9 ⊢
      have e0 : W9.cell? ⟨B + 1, 0, none⟩ = some _ := cell_n HE9.out 0 rfl
      have e1 : W9.cell? ⟨B + 1, 1, none⟩ = some _ := cell_n HE9.out 1 rfl
      have e2 : W9.cell? ⟨B + 1, 2, none⟩ = some _ := cell_n HE9.out 2 rfl
      refine bodyPost_ret (by simp [results, Try.results45, go_sem, e0, e1, e2]; rfl) rfl ?_
      rw [← HP.out]
      exact ⟨_, _, _, by rw [Hr.out], by rw [Hr.out]; exact HC9.out, by rw [hB.out]; exact HB9.out⟩
    · have hkn : k = ops.length := by omega
      have Hr1 : Hid (r = if s.1.length = 0 then (8, noC) else if s.1 = c.v then (0, ⟨s.1, [], s.2⟩) else (0, ⟨c.v, s.1, s.2⟩)) := by
        show _ = _
        have := Hops.out
        rw [List.drop_of_length_le (by omega), opsP] at this
        rw [Hr0.out, ← this]
      obtain ⟨a6, c6, rfl⟩ := J6.out.len
      obtain ⟨a7, c7, rfl⟩ := J7.out.len
      have t0 : decide (k < ops.length) = false := decide_eq_false (by omega)
      clear hkn hlt
      go_upto_if 46 with (fail)
      iterate 12 (first | done | (refine hK1 _ _ ?_; exact refBegin_end a b d c ops B w W post r HP hB Hws Hx Hc av cv hav wr JV s.1 s.2 a6 a7 c6 c7 J6 J7 Hr1) | exact refBegin_end a b d c ops B w W post r HP hB Hws Hx Hc av cv hav wr JV s.1 s.2 a6 a7 c6 c7 J6 J7 Hr1 | go_step)
end Go.Proofs.Ytgdmcbjlfnjhjaa
