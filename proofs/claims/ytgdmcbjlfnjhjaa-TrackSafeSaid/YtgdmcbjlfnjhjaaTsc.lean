/-
  TrackSafe: the law's walk.
-/
import Derived.Test.YtgdmcbjlfnjhjaaTsb
import Derived.Deep.DeepCutAuto
import Derived.Deep.CutRange
namespace Go.Proofs.Ytgdmcbjlfnjhjaa
open Go.RowKit Wm Mm Lg
set_option linter.unusedVariables false
set_option linter.unusedSimpArgs false

theorem valid_lensT {c : Conf} (h : validB c = true) : c.v.length ≤ 9 ∧ c.n.length ≤ 9 ∧ c.l.length ≤ 9 := by
  have key : ∀ {l : List Int}, risingB l = true → l.length ≤ 9 := by
    intro l h
    obtain ⟨hs, hb⟩ := rising_iff.1 h
    have key : ∀ i (hi : i < l.length), (i : Int) + 1 ≤ l[i] := by
      intro i
      induction i with
      | zero => intro hi; have := (hb l[0] (List.getElem_mem hi)).1; simpa using this
      | succ i ih =>
        intro hi
        have h1 := ih (by omega)
        have h2 : l[i] < l[i + 1] := List.pairwise_iff_getElem.1 hs i (i + 1) (by omega) hi (by omega)
        omega
    by_cases h0 : l.length = 0
    · omega
    · have h1 := key (l.length - 1) (by omega)
      have h2 := (hb l[l.length - 1] (List.getElem_mem (by omega))).2
      omega
  obtain ⟨_, h2, h3, h4, _⟩ := validB_iff.1 h
  exact ⟨key h2, key h3, key h4⟩
set_option maxHeartbeats 4000000 in
set_option maxRecDepth 100000 in
theorem safe_make {v4 v5 v6 v7 v8 v9 v10 v11 v12 v13 v14 v15 v16 v17 v18 v19 v20 v21 v22 v23 v24 v25 v26 v27 v28 v29 v30 v31 v32 v33 v34 v35 v36 v37 v38 v39 v40 v41 v42 v43 v44 v45 v46 v47 v48 v49 v50 v51 v52 v53 v54 v55 v56 v57 v58 v59 v60 v61 v62 v63 v64 v65 v66 v67 v68 v69 v70 v71 v72 v73 v74 v75 v76 v77 v78 v79 v80 v81 v82 v83 v84 v85 v86 v87 v88 v89 v90 v91 v92 v93 v94 v95 v96 v97 v98 v99 v100 v101 v102 v103 v104 v105 v106 v107 v108 v109 v110 v111 v112 v113 v114 v115 v116 v117 v118 v119 v120 v121 v122 v123 v124 v125 v126 v127 v128 v129 v130 v131 v132 v133 v134 v135 v136 v137 v138 v139 v140 v141 v142 v143 v144 v145 v146 v147 v148 v149 v150 v151 v152 v153 v154 v155 v156 v157 : Value} (W : World) (post : Ending → World → Prop) (HP : Hid (∀ w', Below W.heap.size W w' → post (.returned (.bool true)) w'))
    (voters commit : Int) (am as_ : Option Addr) (cm cs : Nat) (ms steps : List Int) (HM : Hid (∀ w', Below W.heap.size W w' → Ints w' (.slice am ms.length cm) ms)) (HS : Hid (∀ w', Below W.heap.size W w' → Ints w' (.slice as_ steps.length cs) steps)) :
    Code.wp Try.prog ((Try.f3.body.bind (seqAt 6)).getD .skip) (bodyPost Try.prog Try.f3 post) ⟨#[.int .i64 voters, .slice as_ steps.length cs, .slice am ms.length cm, .int .i64 commit, v4, v5, v6, v7, v8, v9, v10, v11, v12, v13, v14, v15, v16, v17, v18, v19, v20, v21, v22, v23, v24, v25, v26, v27, v28, v29, v30, v31, v32, v33, v34, v35, v36, v37, v38, v39, v40, v41, v42, v43, v44, v45, v46, v47, v48, v49, v50, v51, v52, v53, v54, v55, v56, v57, v58, v59, v60, v61, v62, v63, v64, v65, v66, v67, v68, v69, v70, v71, v72, v73, v74, v75, v76, v77, v78, v79, v80, v81, v82, v83, v84, v85, v86, v87, v88, v89, v90, v91, v92, v93, v94, v95, v96, v97, v98, v99, v100, v101, v102, v103, v104, v105, v106, v107, v108, v109, v110, v111, v112, v113, v114, v115, v116, v117, v118, v119, v120, v121, v122, v123, v124, v125, v126, v127, v128, v129, v130, v131, v132, v133, v134, v135, v136, v137, v138, v139, v140, v141, v142, v143, v144, v145, v146, v147, v148, v149, v150, v151, v152, v153, v154, v155, v156, v157], []⟩ W := by
  conv => arg 2; whnf
  obtain ⟨c, hc⟩ := hide (confP voters 0)
  have Hv : Hid (validB c = true) := by show _ = _; rw [← hc.out]; exact confP_valid voters 0
  have HCf := configOf_law voters 0 W
  rw [hc.out] at HCf
  have HCf := Lib.hid HCf
  obtain ⟨es, hes⟩ := hide (leadL steps)
  have Hk : Hid (Ok 0 es) := by show Ok _ _; rw [← hes.out]; exact (share steps [] (Nat.zero_le _)).okL
  have hn40 : es.length ≤ 40 := by rw [← hes.out, leadL_len]; omega
  clear hc
  go_wp2_with fail
  refine HCf.out.mono ?_
  rintro e w1 ⟨ca, cb, cd, rfl, hcf, hb1⟩
  obtain ⟨x1, y1, rfl⟩ := hcf.v.len
  obtain ⟨x2, y2, rfl⟩ := hcf.n.len
  obtain ⟨x3, y3, rfl⟩ := hcf.l.len
  obtain ⟨V1, hV1⟩ := hide (w1.alloc (.cells #[(.slice x1 c.v.length y1), (.slice x2 c.n.length y2), (.slice x3 c.l.length y3)] 25))
  have hx : V1.heap[w1.heap.size]? = some (.cells #[(.slice x1 c.v.length y1), (.slice x2 c.n.length y2), (.slice x3 c.l.length y3)] 25 (0, 0)) := by rw [← hV1.out]; exact hp_at _ _ rfl
  have hbV : Below W.heap.size W V1 := by rw [← hV1.out]; exact hb1.alloc hb1.size _
  have hcV : Config3 V1 (.slice x1 c.v.length y1) (.slice x2 c.n.length y2) (.slice x3 c.l.length y3) c := hcf.conf.mono (by rw [← hV1.out]; exact (Below.refl _ _).alloc (Nat.le_refl _) _)
  obtain ⟨D, hD⟩ := hide w1.heap.size
  rw [hD.out] at hx
  have HC : Hid (∀ w', Below V1.heap.size V1 w' → w'.heap[D]? = some (.cells #[(.slice x1 c.v.length y1), (.slice x2 c.n.length y2), (.slice x3 c.l.length y3)] 25 (0, 0)) ∧ Config3 w' (.slice x1 c.v.length y1) (.slice x2 c.n.length y2) (.slice x3 c.l.length y3) c) := fun w' h => ⟨(h.block D (lt_of_block hx)).trans hx, hcV.mono h⟩
  have HbV := Lib.hid hbV
  have HGr := law_grown (.slice as_ steps.length cs) steps V1 (HS.out _ hbV)
  rw [hes.out] at HGr
  have HGr := Lib.hid HGr
  clear hx hb1 hbV hcV hcf hes
  try dsimp only
  go_upto_region 7 with fail
  rw [hV1.out, hD.out]
  go_wp2_with fail
  refine HGr.out.mono ?_
  rintro e w2 ⟨ae, ce, rfl, hoe, hb2⟩
  obtain ⟨V2, hV2⟩ := hide (w2.alloc (.cells (oLog 0 0 (.slice ae es.length ce)) 33))
  have hx2 : V2.heap[w2.heap.size]? = some (.cells (oLog 0 0 (.slice ae es.length ce)) 33 (0, 0)) := by rw [← hV2.out]; exact hp_at _ _ rfl
  have hb2' : Below V1.heap.size V1 V2 := by rw [← hV2.out]; exact hb2.alloc hb2.size _
  have he2 : Ents (fun _ => True) V2 (.slice ae es.length ce) es := by
    rw [← hV2.out]
    exact (Sl.own rowE rowE_len hoe (fun _ _ => rfl) (fun _ _ _ _ => trivial)).frame (Plain.good _) (Agree.alloc _ _ _)
  obtain ⟨G, hG⟩ := hide w2.heap.size
  rw [hG.out] at hx2
  have HG : Hid (∀ w', Below V2.heap.size V2 w' → w'.heap[G]? = some (.cells (oLog 0 0 (.slice ae es.length ce)) 33 (0, 0)) ∧ Ents (fun _ => True) w' (.slice ae es.length ce) es) := fun w' h => ⟨(h.block G (lt_of_block hx2)).trans hx2, he2.frame (Plain.good _) (Agree.below h)⟩
  have H2 := Lib.hid hb2'
  have HTm := Lib.hid (law_termOf _ es es.length _ V2 he2 (Nat.le_refl _))
  have g2 : V2.cell? ⟨G, 2, none⟩ = some (.slice ae es.length ce) := cell_n hx2 2 rfl
  obtain ⟨tm, htm⟩ := hide (termIn es es.length)
  rw [htm.out] at HTm
  obtain ⟨l1, l2, l3⟩ := valid_lensT Hv.out
  clear hx2 hb2 hb2' he2 hoe
  try dsimp only
  go_upto_region 8 with fail
  rw [hV2.out, hG.out]
  go_wp2_with fail
  refine HTm.out.mono ?_
  rintro e w3 ⟨rfl, rfl⟩
  clear g2
  have x0 := (HC.out _ H2.out).1
  have c0 : V2.cell? ⟨D, 0, none⟩ = some (.slice x1 c.v.length y1) := cell_n x0 0 rfl
  have c1 : V2.cell? ⟨D, 1, none⟩ = some (.slice x2 c.n.length y2) := cell_n x0 1 rfl
  have c2 : V2.cell? ⟨D, 2, none⟩ = some (.slice x3 c.l.length y3) := cell_n x0 2 rfl
  have HMb := Lib.hid (members_law (.slice x1 c.v.length y1) (.slice x2 c.n.length y2) (.slice x3 c.l.length y3) c V2 (HC.out _ H2.out).2 (by omega) (by omega) (by omega))
  have hul := unionP_len (c.v ++ (c.n ++ c.l))
  obtain ⟨m, hm⟩ := hide (unionP (c.v ++ (c.n ++ c.l)))
  rw [hm.out] at HMb hul
  have hml : m.length ≤ 1048576 := by simp only [List.length_append] at hul; omega
  clear x0 hul
  go_wp2_with fail
  refine HMb.out.mono ?_
  rintro e w4 ⟨v15, rfl, hom, hb4⟩
  obtain ⟨a15, c15, rfl⟩ := owns_slice hom
  have hb14 : Below V1.heap.size V1 w4 := H2.out.trans (hb4.mono H2.out.size)
  have hb04 : Below W.heap.size W w4 := HbV.out.trans (hb14.mono HbV.out.size)
  have him : Ints w4 (.slice a15 m.length c15) m := Ints.of_own hom
  have HP4 : Hid (∀ w', Below w4.heap.size w4 w' → post (.returned (.bool true)) w') := fun w' h => HP.out w' (hb04.trans (h.mono hb04.size))
  have HC4 : Hid (∀ w', Below w4.heap.size w4 w' → w'.heap[D]? = some (.cells #[(.slice x1 c.v.length y1), (.slice x2 c.n.length y2), (.slice x3 c.l.length y3)] 25 (0, 0)) ∧ Config3 w' (.slice x1 c.v.length y1) (.slice x2 c.n.length y2) (.slice x3 c.l.length y3) c) := fun w' h => HC.out w' (hb14.trans (h.mono hb14.size))
  have HG4 : Hid (∀ w', Below w4.heap.size w4 w' → w'.heap[G]? = some (.cells (oLog 0 0 (.slice ae es.length ce)) 33 (0, 0)) ∧ Ents (fun _ => True) w' (.slice ae es.length ce) es) := fun w' h => HG.out w' (hb4.trans (h.mono hb4.size))
  have HM4 : Hid (∀ w', Below w4.heap.size w4 w' → Ints w' (.slice am ms.length cm) ms) := fun w' h => HM.out w' (hb04.trans (h.mono hb04.size))
  have Hm4 : Hid (∀ w', Below w4.heap.size w4 w' → Ints w' (.slice a15 m.length c15) m) := fun w' h => him.mono h
  have hv1 : c.v.length ≤ 1048576 := by omega
  have hv2 : c.n.length ≤ 1048576 := by omega
  clear hb4 hb14 hb04 hom him c0 c1 c2 HG HC
  try dsimp only
  iterate 30 (first | done | exact safe_fill w4 post HP4 D (.slice x1 c.v.length y1) (.slice x2 c.n.length y2) (.slice x3 c.l.length y3) c HC4 hv1 hv2 G ae ce es (fun _ => True) HG4 Hk hn40 tm commit am cm ms HM4 a15 c15 m Hm4 hml | go_step)
theorem one_ok : okC ⟨[1], [], []⟩ [⟨1, 1, 2, 0, false, 0⟩] [⟨1, 1, 0, []⟩] 1 1 = true := by rfl
theorem one_is {r : Nat} (h : CommitIs ⟨[1], [], []⟩ [⟨1, 1, 2, 0, false, 0⟩] [⟨1, 1, 0, []⟩] 1 0 r) : r = 1 := by
  have h1 := h.hi
  simp at h1
  by_cases h0 : r = 0
  · subst h0
    have := h.no 1 (by omega) (by simp)
    rw [one_ok] at this
    cases this
  · omega
theorem own_one {w : World} {g size : Nat} {e : TypeId} {xs : List Value} (h : w.heap[g]? = some (.cells xs.toArray e (0, 0))) (hx : xs.length = size) : w.ownsRow 0 e size (.slice (some ⟨g, 0, none⟩) 1 1) 1 xs :=
  ⟨by omega, .inr ⟨g, 1, _, rfl, Nat.zero_le _, h, Nat.le_refl _, by unfold maxLen; omega, by simp [hx], by simp [← hx]⟩⟩
set_option maxHeartbeats 4000000 in
set_option maxRecDepth 100000 in
theorem law_safe (voters commit : Int) (sv mv : Value) (steps ms : List Int) (w : World) (hs : Ints w sv steps) (hm : Ints w mv ms) :
    Calls Try.prog 3 #[.int .i64 voters, sv, mv, .int .i64 commit] w fun e w' => e = .returned (.bool true) ∧ Below w.heap.size w w' := by
  obtain ⟨post, HP⟩ := hide (fun (e : Ending) (w' : World) => e = .returned (.bool true) ∧ Below w.heap.size w w')
  rw [HP.out]
  obtain ⟨as_, cs, rfl, hsl⟩ := len_of_Ints hs
  obtain ⟨am, cm, rfl, hml⟩ := len_of_Ints hm
  have HS : Hid (∀ w', Below w.heap.size w w' → Ints w' (.slice as_ steps.length cs) steps) := fun w' h => hs.mono h
  have HM : Hid (∀ w', Below w.heap.size w w' → Ints w' (.slice am ms.length cm) ms) := fun w' h => hm.mono h
  have Hp : Hid (∀ w', Below w.heap.size w w' → post (.returned (.bool true)) w') := by
    show ∀ w', _ → _
    intro w' h; rw [← HP.out]; exact ⟨rfl, h⟩
  clear hs hm
  by_cases h1 : 16384 < steps.length
  · have t1 : decide (16384 < (steps.length : Int)) = true := decide_eq_true (by omega)
    have Hq := Lib.hid (Hp.out w (Below.refl _ _))
    clear h1
    go_enter Try.func3, Try.ntmps3
    go_wp2_with fail
    first | exact Hq.out | (go_ret; exact Hq.out)
  have t1 : decide (16384 < (steps.length : Int)) = false := decide_eq_false (by omega)
  by_cases h2 : 16384 < ms.length
  · have t2 : decide (16384 < (ms.length : Int)) = true := decide_eq_true (by omega)
    have Hq := Lib.hid (Hp.out w (Below.refl _ _))
    clear h1 h2
    go_enter Try.func3, Try.ntmps3
    go_wp2_with fail
    first | exact Hq.out | (go_ret; exact Hq.out)
  have t2 : decide (16384 < (ms.length : Int)) = false := decide_eq_false (by omega)
  clear h1 h2
  obtain ⟨W1, hW1⟩ := hide (w.alloc (.cells #[.int .i64 1] 3))
  obtain ⟨W2, hW2⟩ := hide (W1.alloc (.cells #[.int .i64 1, .int .i64 1, .int .i64 2, .int .i64 0, .bool false, .int .i64 0] 27))
  obtain ⟨W3, hW3⟩ := hide (W2.alloc (.cells #[.int .i64 1, .int .i64 1, .int .i64 0, .string ⟨#[]⟩] 30))
  have hb1 : Below w.heap.size w W1 := by rw [← hW1.out]; exact (Below.refl _ _).alloc (Nat.le_refl _) _
  have hb2 : Below W1.heap.size W1 W2 := by rw [← hW2.out]; exact (Below.refl _ _).alloc (Nat.le_refl _) _
  have hb3 : Below W2.heap.size W2 W3 := by rw [← hW3.out]; exact (Below.refl _ _).alloc (Nat.le_refl _) _
  have hb23 : Below W1.heap.size W1 W3 := hb2.trans (hb3.mono hb2.size)
  have hb13 : Below w.heap.size w W3 := hb1.trans (hb23.mono hb1.size)
  have hx1 : W1.heap[w.heap.size]? = some (.cells #[.int .i64 1] 3 (0, 0)) := by rw [← hW1.out]; exact hp_at _ _ rfl
  have hx2 : W2.heap[W1.heap.size]? = some (.cells (arrG ⟨1, 1, 2, 0, false, 0⟩) 27 (0, 0)) := by rw [← hW2.out]; exact hp_at _ _ rfl
  have hx3 : W3.heap[W2.heap.size]? = some (.cells #[.int .i64 1, .int .i64 1, .int .i64 0, .string ⟨#[]⟩] 30 (0, 0)) := by rw [← hW3.out]; exact hp_at _ _ rfl
  have hy1 := (hb23.block _ (lt_of_block hx1)).trans hx1
  have hy2 := (hb3.block _ (lt_of_block hx2)).trans hx2
  have s1 : W1.heap.size = w.heap.size + 1 := by rw [← hW1.out]; simp
  have s2 : W2.heap.size = w.heap.size + 2 := by rw [← hW2.out]; simp [s1]
  have hI : Ints W3 (.slice (some ⟨w.heap.size, 0, none⟩) 1 1) [1] := Ints.of_own (own_one (xs := [.int .i64 1]) hy1 rfl)
  have hG : Prgs (fun _ => True) W3 (.slice (some ⟨w.heap.size + 1, 0, none⟩) 1 1) [⟨1, 1, 2, 0, false, 0⟩] := by
    rw [← s1]
    exact Sl.own rowG rowG_len (own_one (xs := rowG ⟨1, 1, 2, 0, false, 0⟩) hy2 rfl) (fun _ _ => rfl) (fun _ _ _ _ => trivial)
  have hE : Ents (fun _ => True) W3 (.slice (some ⟨w.heap.size + 2, 0, none⟩) 1 1) [⟨1, 1, 0, []⟩] := by
    rw [← s2]
    exact Sl.own rowE rowE_len (own_one (xs := rowE ⟨1, 1, 0, []⟩) hx3 rfl) (fun _ _ => rfl) (fun _ _ _ _ => trivial)
  have hN : Ints W3 (.slice none 0 0) [] := (IntsF.nil 0 _).ints
  have hk1 : Ok 0 [(⟨1, 1, 0, []⟩ : EntP)] := ⟨by omega, by omega, by simp, fun k h => by
    have h0 : k = 0 := by simp at h; exact h
    subst h0; rfl⟩
  have HC := commit_law (.slice (some ⟨w.heap.size, 0, none⟩) 1 1) (.slice none 0 0) (.slice none 0 0) (.slice (some ⟨w.heap.size + 1, 0, none⟩) 1 1) (.slice (some ⟨w.heap.size + 2, 0, none⟩) 1 1) ⟨[1], [], []⟩ [⟨1, 1, 2, 0, false, 0⟩] [⟨1, 1, 0, []⟩] _ _ 1 0 W3 ⟨hI, hN, hN⟩ (by simp) (by simp) hG (by simp) hE hk1 (by simp) (Nat.zero_le _)
  rw [show ((0 : Nat) : Int) = 0 from rfl] at HC
  have HC := Lib.hid HC
  have Hb13 := Lib.hid hb13
  clear hb1 hb2 hb3 hb23 hb13 hx1 hx2 hx3 hy1 hy2 s1 s2 hI hG hE hN hk1
  go_enter Try.func3, Try.ntmps3
  go_wp2_with fail
  rw [hW1.out, hW2.out, hW3.out]
  refine HC.out.mono ?_
  rintro e w4 ⟨r, rfl, hI, hb4⟩
  obtain rfl : r = 1 := one_is hI
  have hb04 : Below w.heap.size w w4 := Hb13.out.trans (hb4.mono Hb13.out.size)
  have HP4 : Hid (∀ w', Below w4.heap.size w4 w' → post (.returned (.bool true)) w') := fun w' h => Hp.out w' (hb04.trans (h.mono hb04.size))
  have HM4 : Hid (∀ w', Below w4.heap.size w4 w' → Ints w' (.slice am ms.length cm) ms) := fun w' h => HM.out w' (hb04.trans (h.mono hb04.size))
  have HS4 : Hid (∀ w', Below w4.heap.size w4 w' → Ints w' (.slice as_ steps.length cs) steps) := fun w' h => HS.out w' (hb04.trans (h.mono hb04.size))
  clear hb4 hb04 hI
  rw [show ((1 : Nat) : Int) = 1 from rfl]
  try dsimp only
  go_upto_if 41 with (fail)
  iterate 12 (first | done | exact safe_make w4 post HP4 voters commit am as_ cm cs ms steps HM4 HS4 | go_step)
end Go.Proofs.Ytgdmcbjlfnjhjaa
