/-
  What files say, read by the program (package wal): an entry put behind the others.
-/
import Derived.Test.YtjlhlmnoomiblaaZ30
import Derived.Test.YtjlhlmnoomiblaaZ31
import Derived.Test.YtjlhlmnoomiblaaZ33
namespace Go.Proofs.Ytjlhlmnoomiblaa
open Go.RowKit Wm Mm Lg Fl
set_option linter.unusedVariables false
set_option linter.unusedSimpArgs false

set_option maxHeartbeats 4000000 in
set_option maxRecDepth 100000 in
theorem app_nil {v1 v2 v3 v4 v5 v6 v7 v9 v10 v11 v12 v13 v14 v15 v16 v17 v18 v19 v20 v21 v22 v23 v24 v25 v26 v27 v28 v29 v30 v31 v32 v33 v34 v35 v36 v37 v38 v39 v40 v41 v42 v43 v44 v45 v46 v47 v48 v49 v50 v51 v52 v53 v54 v55 v56 v57 v58 v59 v60 v61 v62 v63 v64 v65 v66 v67 v68 v69 v70 v71 v72 v73 v74 v75 v76 v77 v78 v79 v80 v81 v82 v83 v84 v85 v86 v87 v88 v89 v90 v91 v92 v93 v94 v95 v96 v97 v98 v99 v100 v101 v102 v103 v104 v105 v106 v107 v108 v109 v110 v111 v112 v113 v114 v115 v116 v117 v118 v119 v120 v121 v122 v123 v124 v125 v126 v127 v128 v129 v130 v131 v132 v133 v134 v135 v136 v137 v138 v139 v140 v141 v142 v143 v144 v145 : Value} (U : World) (T P C : Nat) (bs ii ti qi : Int) (dd : List UInt8) (xs : List Value)
    (HS0 : Hid ((fun u : World => u.cell? ⟨C, 0, none⟩ = some (.int .i64 ii) ∧ u.cell? ⟨C, 1, none⟩ = some (.int .i64 ti) ∧ u.cell? ⟨C, 2, none⟩ = some (.int .i64 qi) ∧ u.cell? ⟨C, 3, none⟩ = some (str dd) ∧ u.cell? ⟨P, 3, none⟩ = some (.int .i64 bs) ∧ u.cell? ⟨P, 5, none⟩ = some (Value.slice none 0 0)) U)) (HS9 : Hid (∀ w9 : World, ((U.alloc (.cells #[.int .i64 ii, .int .i64 ti, .int .i64 qi, str dd] 37)).drew).grownBy w9 (Value.slice none 0 0).ownBlock → (fun u : World => u.cell? ⟨C, 0, none⟩ = some (.int .i64 ii) ∧ u.cell? ⟨C, 1, none⟩ = some (.int .i64 ti) ∧ u.cell? ⟨C, 2, none⟩ = some (.int .i64 qi) ∧ u.cell? ⟨C, 3, none⟩ = some (str dd) ∧ u.cell? ⟨P, 3, none⟩ = some (.int .i64 bs) ∧ u.cell? ⟨P, 5, none⟩ = some (Value.slice none 0 0)) w9 ∧ w9.frozen? ⟨P, 5, none⟩ = false))
    (hw1 : IntKind.i64.wrap (ii - bs) = ii - bs) (hw2 : IntKind.i64.wrap (ii - bs - 1) = ((0 : Nat) : Int))
    (HoT : Hid (((U.alloc (.cells #[.int .i64 ii, .int .i64 ti, .int .i64 qi, str dd] 37)).drew).ownsRow T 37 4 (Value.slice none 0 0) 0 xs)) (HTU : Hid (T ≤ ((U.alloc (.cells #[.int .i64 ii, .int .i64 ti, .int .i64 qi, str dd] 37)).drew).heap.size))
    (K : Act → World → Prop)
    (HK : Hid (∀ (u93 u94 u95 u96 u97 u98 u99 u100 u101 u102 u103 u104 u105 u106 u107 u108 u109 u110 u111 u112 u113 u114 : Value) (wx : World), (∃ a9 k9 w9, u111 = .slice a9 (0 + 1) k9 ∧ ((U.alloc (.cells #[.int .i64 ii, .int .i64 ti, .int .i64 qi, str dd] 37)).drew).grownBy w9 (Value.slice none 0 0).ownBlock ∧ w9.ownsRow T 37 4 (.slice a9 (0 + 1) k9) (0 + 1) (xs ++ [.int .i64 ii, .int .i64 ti, .int .i64 qi, str dd]) ∧ wx = w9.setCell ⟨P, 5, none⟩ (.slice a9 (0 + 1) k9)) → K ⟨#[.pointer (some ⟨P, 0, none⟩), v1, v2, v3, v4, v5, v6, v7, .pointer (some ⟨C, 0, none⟩), v9, v10, v11, v12, v13, v14, v15, v16, v17, v18, v19, v20, v21, v22, v23, v24, v25, v26, v27, v28, v29, v30, v31, v32, v33, v34, v35, v36, v37, v38, v39, v40, v41, v42, v43, v44, v45, v46, v47, v48, v49, v50, v51, v52, v53, v54, v55, v56, v57, v58, v59, v60, v61, v62, v63, v64, v65, v66, v67, v68, v69, v70, v71, v72, v73, v74, v75, v76, v77, v78, v79, v80, v81, v82, v83, v84, v85, v86, v87, v88, v89, v90, v91, v92, u93, u94, u95, u96, u97, u98, u99, u100, u101, u102, u103, u104, u105, u106, u107, u108, u109, u110, u111, u112, u113, u114, v115, v116, v117, v118, v119, v120, v121, v122, v123, v124, v125, v126, v127, v128, v129, v130, v131, v132, v133, v134, v135, v136, v137, v138, v139, v140, v141, v142, v143, v144, v145], []⟩ wx)) :
    Code.wp Try.prog ((Try.f17.body.bind (regionAt 16)).getD .skip) (Exit.then K (fun _ _ _ => False)) ⟨#[.pointer (some ⟨P, 0, none⟩), v1, v2, v3, v4, v5, v6, v7, .pointer (some ⟨C, 0, none⟩), v9, v10, v11, v12, v13, v14, v15, v16, v17, v18, v19, v20, v21, v22, v23, v24, v25, v26, v27, v28, v29, v30, v31, v32, v33, v34, v35, v36, v37, v38, v39, v40, v41, v42, v43, v44, v45, v46, v47, v48, v49, v50, v51, v52, v53, v54, v55, v56, v57, v58, v59, v60, v61, v62, v63, v64, v65, v66, v67, v68, v69, v70, v71, v72, v73, v74, v75, v76, v77, v78, v79, v80, v81, v82, v83, v84, v85, v86, v87, v88, v89, v90, v91, v92, v93, v94, v95, v96, v97, v98, v99, v100, v101, v102, v103, v104, v105, v106, v107, v108, v109, v110, v111, v112, v113, v114, v115, v116, v117, v118, v119, v120, v121, v122, v123, v124, v125, v126, v127, v128, v129, v130, v131, v132, v133, v134, v135, v136, v137, v138, v139, v140, v141, v142, v143, v144, v145], []⟩ U := by
  conv => arg 2; whnf
  have HsT : Hid (Src Try.prog 4 27 (.slice (some ⟨U.heap.size, 0, none⟩) 1 1) 1 [.int .i64 ii, .int .i64 ti, .int .i64 qi, str dd] ((U.alloc (.cells #[.int .i64 ii, .int .i64 ti, .int .i64 qi, str dd] 37)).drew)) := src_new (w := U.drew) Try.underlying27 _ 1 rfl (rowE_one ⟨ii, ti, qi, dd⟩)
  have TT := fun (ops : Array Oper) (o : Oper) (a : Act) (K : Act → World → Prop) (Q : Exit → Act → World → Prop) (E : Prop) hgd ho e1 e2 h4 => @step_append_at Try.prog ((U.alloc (.cells #[.int .i64 ii, .int .i64 ti, .int .i64 qi, str dd] 37)).drew) ops o a K Q E hgd (.tmp 108) (.tmp 110) 27 27 ho T 37 (.agg #[.int .i64 0, .int .i64 0, .int .i64 0, .string ByteArray.empty]) 4 40 Try.underlying27 info_ent rfl (Value.slice none 0 0) 0 xs e1 HoT.out (.slice (some ⟨U.heap.size, 0, none⟩) 1 1) 1 [.int .i64 ii, .int .i64 ti, .int .i64 qi, str dd] e2 HsT.out (by unfold maxLen; omega) (by omega) HTU.out h4
  have HF : Hid (∀ b9 q9 x9, ((U.alloc (.cells #[.int .i64 ii, .int .i64 ti, .int .i64 qi, str dd] 37)).drew).grownBy x9 (Value.slice none 0 0).ownBlock → x9.ownsRow T 37 4 (.slice b9 (0 + 1) q9) (0 + 1) (xs ++ [.int .i64 ii, .int .i64 ti, .int .i64 qi, str dd]) → ∀ wx, wx = x9.setCell ⟨P, 5, none⟩ (.slice b9 (0 + 1) q9) → (∃ a9 k9 w9, (Value.slice b9 (0 + 1) q9) = .slice a9 (0 + 1) k9 ∧ ((U.alloc (.cells #[.int .i64 ii, .int .i64 ti, .int .i64 qi, str dd] 37)).drew).grownBy w9 (Value.slice none 0 0).ownBlock ∧ w9.ownsRow T 37 4 (.slice a9 (0 + 1) k9) (0 + 1) (xs ++ [.int .i64 ii, .int .i64 ti, .int .i64 qi, str dd]) ∧ wx = w9.setCell ⟨P, 5, none⟩ (.slice a9 (0 + 1) k9))) := fun b9 q9 x9 h1 h2 wx h3 => ⟨b9, q9, x9, rfl, h1, h2, h3⟩
  have HSd : Hid ((fun u : World => u.cell? ⟨C, 0, none⟩ = some (.int .i64 ii) ∧ u.cell? ⟨C, 1, none⟩ = some (.int .i64 ti) ∧ u.cell? ⟨C, 2, none⟩ = some (.int .i64 qi) ∧ u.cell? ⟨C, 3, none⟩ = some (str dd) ∧ u.cell? ⟨P, 3, none⟩ = some (.int .i64 bs) ∧ u.cell? ⟨P, 5, none⟩ = some (Value.slice none 0 0)) U.drew) := HS0.out
  have HSA : Hid ((fun u : World => u.cell? ⟨C, 0, none⟩ = some (.int .i64 ii) ∧ u.cell? ⟨C, 1, none⟩ = some (.int .i64 ti) ∧ u.cell? ⟨C, 2, none⟩ = some (.int .i64 qi) ∧ u.cell? ⟨C, 3, none⟩ = some (str dd) ∧ u.cell? ⟨P, 3, none⟩ = some (.int .i64 bs) ∧ u.cell? ⟨P, 5, none⟩ = some (Value.slice none 0 0)) ((U.alloc (.cells #[.int .i64 ii, .int .i64 ti, .int .i64 qi, str dd] 37)).drew)) := by
    obtain ⟨h0, h1, h2, h3, h4, h5⟩ := HS0.out
    have hb : Below U.heap.size U ((U.alloc (.cells #[.int .i64 ii, .int .i64 ti, .int .i64 qi, str dd] 37)).drew) := ((Below.refl _ _).alloc (Nat.le_refl _) _).drew
    exact ⟨(hb.cell (p := ⟨C, 0, none⟩) (lt_of_cell h0)).trans h0, (hb.cell (p := ⟨C, 1, none⟩) (lt_of_cell h1)).trans h1, (hb.cell (p := ⟨C, 2, none⟩) (lt_of_cell h2)).trans h2, (hb.cell (p := ⟨C, 3, none⟩) (lt_of_cell h3)).trans h3, (hb.cell (p := ⟨P, 3, none⟩) (lt_of_cell h4)).trans h4, (hb.cell (p := ⟨P, 5, none⟩) (lt_of_cell h5)).trans h5⟩
  clear HsT
  refine AnyX.begin 22 (fun u : World => u.cell? ⟨C, 0, none⟩ = some (.int .i64 ii) ∧ u.cell? ⟨C, 1, none⟩ = some (.int .i64 ti) ∧ u.cell? ⟨C, 2, none⟩ = some (.int .i64 qi) ∧ u.cell? ⟨C, 3, none⟩ = some (str dd) ∧ u.cell? ⟨P, 3, none⟩ = some (.int .i64 bs) ∧ u.cell? ⟨P, 5, none⟩ = some (Value.slice none 0 0)) (by kernel_rfl) ?_
  refine AnyX.take (i := 0) (v := ?_) rfl (by kernel_rfl) (by kernel_rfl) (by kernel_rfl) (by kernel_rfl) (fun _ _ _ h => h) (by rfl) (fun w hw => ?_) HSd.out ?_
  rotate_left
  · obtain ⟨s0, s1, s2, s3, s4, s5⟩ := hw
    go_simp
    try with_reducible rfl
  try simp only [Act.put, List.setIfInBounds_toArray, List.set_cons_zero, List.set_cons_succ]
  refine AnyX.take (i := 1) (v := ?_) rfl (by kernel_rfl) (by kernel_rfl) (by kernel_rfl) (by kernel_rfl) (fun _ _ _ h => h) (by rfl) (fun w hw => ?_) HSd.out ?_
  rotate_left
  · obtain ⟨s0, s1, s2, s3, s4, s5⟩ := hw
    go_simp
    try with_reducible rfl
  try simp only [Act.put, List.setIfInBounds_toArray, List.set_cons_zero, List.set_cons_succ]
  refine AnyX.take (i := 2) (v := ?_) rfl (by kernel_rfl) (by kernel_rfl) (by kernel_rfl) (by kernel_rfl) (fun _ _ _ h => h) (by rfl) (fun w hw => ?_) HSd.out ?_
  rotate_left
  · obtain ⟨s0, s1, s2, s3, s4, s5⟩ := hw
    go_simp
    try with_reducible rfl
  try simp only [Act.put, List.setIfInBounds_toArray, List.set_cons_zero, List.set_cons_succ]
  refine AnyX.take (i := 3) (v := ?_) rfl (by kernel_rfl) (by kernel_rfl) (by kernel_rfl) (by kernel_rfl) (fun _ _ _ h => h) (by rfl) (fun w hw => ?_) HSd.out ?_
  rotate_left
  · obtain ⟨s0, s1, s2, s3, s4, s5⟩ := hw
    go_simp
    try with_reducible rfl
  try simp only [Act.put, List.setIfInBounds_toArray, List.set_cons_zero, List.set_cons_succ]
  refine AnyX.take (i := 4) (v := ?_) rfl (by kernel_rfl) (by kernel_rfl) (by kernel_rfl) (by kernel_rfl) (fun _ _ _ h => h) (by rfl) (fun w hw => ?_) HSd.out ?_
  rotate_left
  · obtain ⟨s0, s1, s2, s3, s4, s5⟩ := hw
    go_simp
    try with_reducible rfl
  try simp only [Act.put, List.setIfInBounds_toArray, List.set_cons_zero, List.set_cons_succ]
  refine AnyX.take (i := 5) (v := ?_) rfl (by kernel_rfl) (by kernel_rfl) (by kernel_rfl) (by kernel_rfl) (fun _ _ _ h => h) (by rfl) (fun w hw => ?_) HSd.out ?_
  rotate_left
  · obtain ⟨s0, s1, s2, s3, s4, s5⟩ := hw
    go_simp
    try with_reducible rfl
  try simp only [Act.put, List.setIfInBounds_toArray, List.set_cons_zero, List.set_cons_succ]
  refine AnyX.take (i := 6) (v := ?_) rfl (by kernel_rfl) (by kernel_rfl) (by kernel_rfl) (by kernel_rfl) (fun _ _ _ h => h) (by rfl) (fun w hw => ?_) HSd.out ?_
  rotate_left
  · obtain ⟨s0, s1, s2, s3, s4, s5⟩ := hw
    go_simp
    try with_reducible rfl
  try simp only [Act.put, List.setIfInBounds_toArray, List.set_cons_zero, List.set_cons_succ]
  refine AnyX.take (i := 7) (v := ?_) rfl (by kernel_rfl) (by kernel_rfl) (by kernel_rfl) (by kernel_rfl) (fun _ _ _ h => h) (by rfl) (fun w hw => ?_) HSd.out ?_
  rotate_left
  · obtain ⟨s0, s1, s2, s3, s4, s5⟩ := hw
    go_simp
    try with_reducible rfl
  try simp only [Act.put, List.setIfInBounds_toArray, List.set_cons_zero, List.set_cons_succ]
  refine AnyX.take (i := 8) (v := ?_) rfl (by kernel_rfl) (by kernel_rfl) (by kernel_rfl) (by kernel_rfl) (fun _ _ _ h => h) (by rfl) (fun w hw => ?_) HSd.out ?_
  rotate_left
  · obtain ⟨s0, s1, s2, s3, s4, s5⟩ := hw
    go_simp
    try with_reducible rfl
  try simp only [Act.put, List.setIfInBounds_toArray, List.set_cons_zero, List.set_cons_succ]
  refine AnyX.take (i := 9) (v := ?_) rfl (by kernel_rfl) (by kernel_rfl) (by kernel_rfl) (by kernel_rfl) (fun _ _ _ h => h) (by rfl) (fun w hw => ?_) HSd.out ?_
  rotate_left
  · obtain ⟨s0, s1, s2, s3, s4, s5⟩ := hw
    go_simp
    try with_reducible rfl
  try simp only [Act.put, List.setIfInBounds_toArray, List.set_cons_zero, List.set_cons_succ]
  refine AnyX.take (i := 10) (v := ?_) rfl (by kernel_rfl) (by kernel_rfl) (by kernel_rfl) (by kernel_rfl) (fun _ _ _ h => h) (by rfl) (fun w hw => ?_) HSd.out ?_
  rotate_left
  · obtain ⟨s0, s1, s2, s3, s4, s5⟩ := hw
    go_simp
    try with_reducible rfl
  try simp only [Act.put, List.setIfInBounds_toArray, List.set_cons_zero, List.set_cons_succ]
  refine AnyX.take (i := 11) (v := ?_) rfl (by kernel_rfl) (by kernel_rfl) (by kernel_rfl) (by kernel_rfl) (fun _ _ _ h => h) (by rfl) (fun w hw => ?_) HSd.out ?_
  rotate_left
  · obtain ⟨s0, s1, s2, s3, s4, s5⟩ := hw
    go_simp
    try with_reducible rfl
  try simp only [Act.put, List.setIfInBounds_toArray, List.set_cons_zero, List.set_cons_succ]
  refine AnyX.take (i := 12) (v := ?_) rfl (by kernel_rfl) (by kernel_rfl) (by kernel_rfl) (by kernel_rfl) (fun _ _ _ h => h) (by rfl) (fun w hw => ?_) HSd.out ?_
  rotate_left
  · obtain ⟨s0, s1, s2, s3, s4, s5⟩ := hw
    go_simp
    try with_reducible rfl
  try simp only [Act.put, List.setIfInBounds_toArray, List.set_cons_zero, List.set_cons_succ]
  refine AnyX.take (i := 13) (v := ?_) rfl (by kernel_rfl) (by kernel_rfl) (by kernel_rfl) (by kernel_rfl) (fun _ _ _ h => h) (by rfl) (fun w hw => ?_) HSd.out ?_
  rotate_left
  · obtain ⟨s0, s1, s2, s3, s4, s5⟩ := hw
    go_simp
    try with_reducible rfl
  try simp only [Act.put, List.setIfInBounds_toArray, List.set_cons_zero, List.set_cons_succ]
  refine AnyX.take (i := 14) (v := ?_) rfl (by kernel_rfl) (by kernel_rfl) (by kernel_rfl) (by kernel_rfl) (fun _ _ _ h => h) (by rfl) (fun w hw => ?_) HSd.out ?_
  rotate_left
  · obtain ⟨s0, s1, s2, s3, s4, s5⟩ := hw
    go_simp
    try with_reducible rfl
  try simp only [Act.put, List.setIfInBounds_toArray, List.set_cons_zero, List.set_cons_succ]
  refine AnyX.take (i := 15) (v := ?_) rfl (by kernel_rfl) (by kernel_rfl) (by kernel_rfl) (by kernel_rfl) (fun _ _ _ h => h) (by rfl) (fun w hw => ?_) HSd.out ?_
  rotate_left
  · obtain ⟨s0, s1, s2, s3, s4, s5⟩ := hw
    go_simp
    try with_reducible rfl
  try simp only [Act.put, List.setIfInBounds_toArray, List.set_cons_zero, List.set_cons_succ]
  refine AnyX.take (i := 16) (v := ?_) rfl (by kernel_rfl) (by kernel_rfl) (by kernel_rfl) (by kernel_rfl) (fun _ _ _ h => h) (by rfl) (fun w hw => ?_) HSd.out ?_
  rotate_left
  · obtain ⟨s0, s1, s2, s3, s4, s5⟩ := hw
    go_simp
    try with_reducible rfl
  try simp only [Act.put, List.setIfInBounds_toArray, List.set_cons_zero, List.set_cons_succ]
  refine AnyX.one (i := 17) (by kernel_rfl) rfl (fun K' HK' => ?_)
  go_simp
  refine HK'.out _ _ ⟨Or.inr HSA.out, ?_⟩
  try simp only [Act.put, List.setIfInBounds_toArray, List.set_cons_zero, List.set_cons_succ]
  refine AnyX.one (i := 18) (by kernel_rfl) rfl (fun K' HK' => ?_)
  refine TT _ _ _ _ _ _ ?_ ?_ ?_ ?_ ?_
  (any_goals rfl)
  intro v9 w9 ho9 hg9 hb9
  obtain ⟨a9, k9, rfl⟩ := owns_slice ho9
  have HS9' := HS9.out w9 hg9
  have Hx9 := Lib.hid HS9'.1
  have g9 := HS9'.2
  obtain ⟨-, -, -, -, -, d9⟩ := HS9'.1
  have HF9 := Lib.hid (HF.out a9 k9 w9 hg9 ho9)
  clear ho9 hg9 hb9 HS9' TT
  refine HK'.out _ _ ⟨Or.inr Hx9.out, ?_⟩
  clear HK'
  try simp only [Act.put, List.setIfInBounds_toArray, List.set_cons_zero, List.set_cons_succ]
  refine AnyX.one (i := 19) (by kernel_rfl) rfl (fun K' HK' => ?_)
  go_simp
  refine HK'.out _ _ ⟨Or.inr Hx9.out, ?_⟩
  clear HK'
  try simp only [Act.put, List.setIfInBounds_toArray, List.set_cons_zero, List.set_cons_succ]
  refine AnyX.one (i := 20) (by kernel_rfl) rfl (fun K' HK' => ?_)
  go_simp
  refine HK'.out _ _ ⟨Or.inr Hx9.out, ?_⟩
  clear HK'
  try simp only [Act.put, List.setIfInBounds_toArray, List.set_cons_zero, List.set_cons_succ]
  refine AnyX.one (i := 21) (by kernel_rfl) rfl (fun K' HK' => ?_)
  go_simp
  refine HK'.out _ _ ⟨Or.inr Hx9.out, ?_⟩
  clear HK'
  try simp only [Act.put, List.setIfInBounds_toArray, List.set_cons_zero, List.set_cons_succ]
  refine AnyX.one (i := 22) (by kernel_rfl) rfl (fun K' HK' => ?_)
  go_simp
  refine HK'.out _ _ ⟨Or.inl rfl, ?_⟩
  clear HK'
  refine AnyX.done (by kernel_rfl) ?_ _
  go_wp2_with fail
  (refine HK.out _ _ _ _ _ _ _ _ _ _ _ _ _ _ _ _ _ _ _ _ _ _ _ ?_; exact HF9.out _ rfl)
set_option maxHeartbeats 4000000 in
set_option maxRecDepth 100000 in
theorem app_some {v1 v2 v3 v4 v5 v6 v7 v9 v10 v11 v12 v13 v14 v15 v16 v17 v18 v19 v20 v21 v22 v23 v24 v25 v26 v27 v28 v29 v30 v31 v32 v33 v34 v35 v36 v37 v38 v39 v40 v41 v42 v43 v44 v45 v46 v47 v48 v49 v50 v51 v52 v53 v54 v55 v56 v57 v58 v59 v60 v61 v62 v63 v64 v65 v66 v67 v68 v69 v70 v71 v72 v73 v74 v75 v76 v77 v78 v79 v80 v81 v82 v83 v84 v85 v86 v87 v88 v89 v90 v91 v92 v93 v94 v95 v96 v97 v98 v99 v100 v101 v102 v103 v104 v105 v106 v107 v108 v109 v110 v111 v112 v113 v114 v115 v116 v117 v118 v119 v120 v121 v122 v123 v124 v125 v126 v127 v128 v129 v130 v131 v132 v133 v134 v135 v136 v137 v138 v139 v140 v141 v142 v143 v144 v145 : Value} (U : World) (T P C : Nat) (bs ii ti qi : Int) (dd : List UInt8) (xs : List Value) (g m n ce : Nat)
    (HS0 : Hid ((fun u : World => u.cell? ⟨C, 0, none⟩ = some (.int .i64 ii) ∧ u.cell? ⟨C, 1, none⟩ = some (.int .i64 ti) ∧ u.cell? ⟨C, 2, none⟩ = some (.int .i64 qi) ∧ u.cell? ⟨C, 3, none⟩ = some (str dd) ∧ u.cell? ⟨P, 3, none⟩ = some (.int .i64 bs) ∧ u.cell? ⟨P, 5, none⟩ = some (Value.slice (some ⟨g, 0, none⟩) n ce)) U)) (HS9 : Hid (∀ w9 : World, ((U.alloc (.cells #[.int .i64 ii, .int .i64 ti, .int .i64 qi, str dd] 37)).drew).grownBy w9 (Value.slice (some ⟨g, 0, none⟩) m ce).ownBlock → (fun u : World => u.cell? ⟨C, 0, none⟩ = some (.int .i64 ii) ∧ u.cell? ⟨C, 1, none⟩ = some (.int .i64 ti) ∧ u.cell? ⟨C, 2, none⟩ = some (.int .i64 qi) ∧ u.cell? ⟨C, 3, none⟩ = some (str dd) ∧ u.cell? ⟨P, 3, none⟩ = some (.int .i64 bs) ∧ u.cell? ⟨P, 5, none⟩ = some (Value.slice (some ⟨g, 0, none⟩) n ce)) w9 ∧ w9.frozen? ⟨P, 5, none⟩ = false))
    (hw1 : IntKind.i64.wrap (ii - bs) = ii - bs) (hw2 : IntKind.i64.wrap (ii - bs - 1) = ((m : Nat) : Int)) (p1 : m ≤ ce) (p2 : (m : Int) ≤ (ce : Int)) (Hm40 : Hid (m ≤ 1099511627775))
    (HoT : Hid (((U.alloc (.cells #[.int .i64 ii, .int .i64 ti, .int .i64 qi, str dd] 37)).drew).ownsRow T 37 4 (Value.slice (some ⟨g, 0, none⟩) m ce) m xs)) (HTU : Hid (T ≤ ((U.alloc (.cells #[.int .i64 ii, .int .i64 ti, .int .i64 qi, str dd] 37)).drew).heap.size))
    (K : Act → World → Prop)
    (HK : Hid (∀ (u93 u94 u95 u96 u97 u98 u99 u100 u101 u102 u103 u104 u105 u106 u107 u108 u109 u110 u111 u112 u113 u114 : Value) (wx : World), (∃ a9 k9 w9, u111 = .slice a9 (m + 1) k9 ∧ ((U.alloc (.cells #[.int .i64 ii, .int .i64 ti, .int .i64 qi, str dd] 37)).drew).grownBy w9 (Value.slice (some ⟨g, 0, none⟩) m ce).ownBlock ∧ w9.ownsRow T 37 4 (.slice a9 (m + 1) k9) (m + 1) (xs ++ [.int .i64 ii, .int .i64 ti, .int .i64 qi, str dd]) ∧ wx = w9.setCell ⟨P, 5, none⟩ (.slice a9 (m + 1) k9)) → K ⟨#[.pointer (some ⟨P, 0, none⟩), v1, v2, v3, v4, v5, v6, v7, .pointer (some ⟨C, 0, none⟩), v9, v10, v11, v12, v13, v14, v15, v16, v17, v18, v19, v20, v21, v22, v23, v24, v25, v26, v27, v28, v29, v30, v31, v32, v33, v34, v35, v36, v37, v38, v39, v40, v41, v42, v43, v44, v45, v46, v47, v48, v49, v50, v51, v52, v53, v54, v55, v56, v57, v58, v59, v60, v61, v62, v63, v64, v65, v66, v67, v68, v69, v70, v71, v72, v73, v74, v75, v76, v77, v78, v79, v80, v81, v82, v83, v84, v85, v86, v87, v88, v89, v90, v91, v92, u93, u94, u95, u96, u97, u98, u99, u100, u101, u102, u103, u104, u105, u106, u107, u108, u109, u110, u111, u112, u113, u114, v115, v116, v117, v118, v119, v120, v121, v122, v123, v124, v125, v126, v127, v128, v129, v130, v131, v132, v133, v134, v135, v136, v137, v138, v139, v140, v141, v142, v143, v144, v145], []⟩ wx)) :
    Code.wp Try.prog ((Try.f17.body.bind (regionAt 16)).getD .skip) (Exit.then K (fun _ _ _ => False)) ⟨#[.pointer (some ⟨P, 0, none⟩), v1, v2, v3, v4, v5, v6, v7, .pointer (some ⟨C, 0, none⟩), v9, v10, v11, v12, v13, v14, v15, v16, v17, v18, v19, v20, v21, v22, v23, v24, v25, v26, v27, v28, v29, v30, v31, v32, v33, v34, v35, v36, v37, v38, v39, v40, v41, v42, v43, v44, v45, v46, v47, v48, v49, v50, v51, v52, v53, v54, v55, v56, v57, v58, v59, v60, v61, v62, v63, v64, v65, v66, v67, v68, v69, v70, v71, v72, v73, v74, v75, v76, v77, v78, v79, v80, v81, v82, v83, v84, v85, v86, v87, v88, v89, v90, v91, v92, v93, v94, v95, v96, v97, v98, v99, v100, v101, v102, v103, v104, v105, v106, v107, v108, v109, v110, v111, v112, v113, v114, v115, v116, v117, v118, v119, v120, v121, v122, v123, v124, v125, v126, v127, v128, v129, v130, v131, v132, v133, v134, v135, v136, v137, v138, v139, v140, v141, v142, v143, v144, v145], []⟩ U := by
  conv => arg 2; whnf
  have HsT : Hid (Src Try.prog 4 27 (.slice (some ⟨U.heap.size, 0, none⟩) 1 1) 1 [.int .i64 ii, .int .i64 ti, .int .i64 qi, str dd] ((U.alloc (.cells #[.int .i64 ii, .int .i64 ti, .int .i64 qi, str dd] 37)).drew)) := src_new (w := U.drew) Try.underlying27 _ 1 rfl (rowE_one ⟨ii, ti, qi, dd⟩)
  have TT := fun (ops : Array Oper) (o : Oper) (a : Act) (K : Act → World → Prop) (Q : Exit → Act → World → Prop) (E : Prop) hgd ho e1 e2 h4 => @step_append_at Try.prog ((U.alloc (.cells #[.int .i64 ii, .int .i64 ti, .int .i64 qi, str dd] 37)).drew) ops o a K Q E hgd (.tmp 108) (.tmp 110) 27 27 ho T 37 (.agg #[.int .i64 0, .int .i64 0, .int .i64 0, .string ByteArray.empty]) 4 40 Try.underlying27 info_ent rfl (Value.slice (some ⟨g, 0, none⟩) m ce) m xs e1 HoT.out (.slice (some ⟨U.heap.size, 0, none⟩) 1 1) 1 [.int .i64 ii, .int .i64 ti, .int .i64 qi, str dd] e2 HsT.out (by have := Hm40.out; unfold maxLen; omega) (by have := Hm40.out; omega) HTU.out h4
  have HF : Hid (∀ b9 q9 x9, ((U.alloc (.cells #[.int .i64 ii, .int .i64 ti, .int .i64 qi, str dd] 37)).drew).grownBy x9 (Value.slice (some ⟨g, 0, none⟩) m ce).ownBlock → x9.ownsRow T 37 4 (.slice b9 (m + 1) q9) (m + 1) (xs ++ [.int .i64 ii, .int .i64 ti, .int .i64 qi, str dd]) → ∀ wx, wx = x9.setCell ⟨P, 5, none⟩ (.slice b9 (m + 1) q9) → (∃ a9 k9 w9, (Value.slice b9 (m + 1) q9) = .slice a9 (m + 1) k9 ∧ ((U.alloc (.cells #[.int .i64 ii, .int .i64 ti, .int .i64 qi, str dd] 37)).drew).grownBy w9 (Value.slice (some ⟨g, 0, none⟩) m ce).ownBlock ∧ w9.ownsRow T 37 4 (.slice a9 (m + 1) k9) (m + 1) (xs ++ [.int .i64 ii, .int .i64 ti, .int .i64 qi, str dd]) ∧ wx = w9.setCell ⟨P, 5, none⟩ (.slice a9 (m + 1) k9))) := fun b9 q9 x9 h1 h2 wx h3 => ⟨b9, q9, x9, rfl, h1, h2, h3⟩
  have HSd : Hid ((fun u : World => u.cell? ⟨C, 0, none⟩ = some (.int .i64 ii) ∧ u.cell? ⟨C, 1, none⟩ = some (.int .i64 ti) ∧ u.cell? ⟨C, 2, none⟩ = some (.int .i64 qi) ∧ u.cell? ⟨C, 3, none⟩ = some (str dd) ∧ u.cell? ⟨P, 3, none⟩ = some (.int .i64 bs) ∧ u.cell? ⟨P, 5, none⟩ = some (Value.slice (some ⟨g, 0, none⟩) n ce)) U.drew) := HS0.out
  have HSA : Hid ((fun u : World => u.cell? ⟨C, 0, none⟩ = some (.int .i64 ii) ∧ u.cell? ⟨C, 1, none⟩ = some (.int .i64 ti) ∧ u.cell? ⟨C, 2, none⟩ = some (.int .i64 qi) ∧ u.cell? ⟨C, 3, none⟩ = some (str dd) ∧ u.cell? ⟨P, 3, none⟩ = some (.int .i64 bs) ∧ u.cell? ⟨P, 5, none⟩ = some (Value.slice (some ⟨g, 0, none⟩) n ce)) ((U.alloc (.cells #[.int .i64 ii, .int .i64 ti, .int .i64 qi, str dd] 37)).drew)) := by
    obtain ⟨h0, h1, h2, h3, h4, h5⟩ := HS0.out
    have hb : Below U.heap.size U ((U.alloc (.cells #[.int .i64 ii, .int .i64 ti, .int .i64 qi, str dd] 37)).drew) := ((Below.refl _ _).alloc (Nat.le_refl _) _).drew
    exact ⟨(hb.cell (p := ⟨C, 0, none⟩) (lt_of_cell h0)).trans h0, (hb.cell (p := ⟨C, 1, none⟩) (lt_of_cell h1)).trans h1, (hb.cell (p := ⟨C, 2, none⟩) (lt_of_cell h2)).trans h2, (hb.cell (p := ⟨C, 3, none⟩) (lt_of_cell h3)).trans h3, (hb.cell (p := ⟨P, 3, none⟩) (lt_of_cell h4)).trans h4, (hb.cell (p := ⟨P, 5, none⟩) (lt_of_cell h5)).trans h5⟩
  clear HsT
  refine AnyX.begin 22 (fun u : World => u.cell? ⟨C, 0, none⟩ = some (.int .i64 ii) ∧ u.cell? ⟨C, 1, none⟩ = some (.int .i64 ti) ∧ u.cell? ⟨C, 2, none⟩ = some (.int .i64 qi) ∧ u.cell? ⟨C, 3, none⟩ = some (str dd) ∧ u.cell? ⟨P, 3, none⟩ = some (.int .i64 bs) ∧ u.cell? ⟨P, 5, none⟩ = some (Value.slice (some ⟨g, 0, none⟩) n ce)) (by kernel_rfl) ?_
  refine AnyX.take (i := 0) (v := ?_) rfl (by kernel_rfl) (by kernel_rfl) (by kernel_rfl) (by kernel_rfl) (fun _ _ _ h => h) (by rfl) (fun w hw => ?_) HSd.out ?_
  rotate_left
  · obtain ⟨s0, s1, s2, s3, s4, s5⟩ := hw
    go_simp
    try with_reducible rfl
  try simp only [Act.put, List.setIfInBounds_toArray, List.set_cons_zero, List.set_cons_succ]
  refine AnyX.take (i := 1) (v := ?_) rfl (by kernel_rfl) (by kernel_rfl) (by kernel_rfl) (by kernel_rfl) (fun _ _ _ h => h) (by rfl) (fun w hw => ?_) HSd.out ?_
  rotate_left
  · obtain ⟨s0, s1, s2, s3, s4, s5⟩ := hw
    go_simp
    try with_reducible rfl
  try simp only [Act.put, List.setIfInBounds_toArray, List.set_cons_zero, List.set_cons_succ]
  refine AnyX.take (i := 2) (v := ?_) rfl (by kernel_rfl) (by kernel_rfl) (by kernel_rfl) (by kernel_rfl) (fun _ _ _ h => h) (by rfl) (fun w hw => ?_) HSd.out ?_
  rotate_left
  · obtain ⟨s0, s1, s2, s3, s4, s5⟩ := hw
    go_simp
    try with_reducible rfl
  try simp only [Act.put, List.setIfInBounds_toArray, List.set_cons_zero, List.set_cons_succ]
  refine AnyX.take (i := 3) (v := ?_) rfl (by kernel_rfl) (by kernel_rfl) (by kernel_rfl) (by kernel_rfl) (fun _ _ _ h => h) (by rfl) (fun w hw => ?_) HSd.out ?_
  rotate_left
  · obtain ⟨s0, s1, s2, s3, s4, s5⟩ := hw
    go_simp
    try with_reducible rfl
  try simp only [Act.put, List.setIfInBounds_toArray, List.set_cons_zero, List.set_cons_succ]
  refine AnyX.take (i := 4) (v := ?_) rfl (by kernel_rfl) (by kernel_rfl) (by kernel_rfl) (by kernel_rfl) (fun _ _ _ h => h) (by rfl) (fun w hw => ?_) HSd.out ?_
  rotate_left
  · obtain ⟨s0, s1, s2, s3, s4, s5⟩ := hw
    go_simp
    try with_reducible rfl
  try simp only [Act.put, List.setIfInBounds_toArray, List.set_cons_zero, List.set_cons_succ]
  refine AnyX.take (i := 5) (v := ?_) rfl (by kernel_rfl) (by kernel_rfl) (by kernel_rfl) (by kernel_rfl) (fun _ _ _ h => h) (by rfl) (fun w hw => ?_) HSd.out ?_
  rotate_left
  · obtain ⟨s0, s1, s2, s3, s4, s5⟩ := hw
    go_simp
    try with_reducible rfl
  try simp only [Act.put, List.setIfInBounds_toArray, List.set_cons_zero, List.set_cons_succ]
  refine AnyX.take (i := 6) (v := ?_) rfl (by kernel_rfl) (by kernel_rfl) (by kernel_rfl) (by kernel_rfl) (fun _ _ _ h => h) (by rfl) (fun w hw => ?_) HSd.out ?_
  rotate_left
  · obtain ⟨s0, s1, s2, s3, s4, s5⟩ := hw
    go_simp
    try with_reducible rfl
  try simp only [Act.put, List.setIfInBounds_toArray, List.set_cons_zero, List.set_cons_succ]
  refine AnyX.take (i := 7) (v := ?_) rfl (by kernel_rfl) (by kernel_rfl) (by kernel_rfl) (by kernel_rfl) (fun _ _ _ h => h) (by rfl) (fun w hw => ?_) HSd.out ?_
  rotate_left
  · obtain ⟨s0, s1, s2, s3, s4, s5⟩ := hw
    go_simp
    try with_reducible rfl
  try simp only [Act.put, List.setIfInBounds_toArray, List.set_cons_zero, List.set_cons_succ]
  refine AnyX.take (i := 8) (v := ?_) rfl (by kernel_rfl) (by kernel_rfl) (by kernel_rfl) (by kernel_rfl) (fun _ _ _ h => h) (by rfl) (fun w hw => ?_) HSd.out ?_
  rotate_left
  · obtain ⟨s0, s1, s2, s3, s4, s5⟩ := hw
    go_simp
    try with_reducible rfl
  try simp only [Act.put, List.setIfInBounds_toArray, List.set_cons_zero, List.set_cons_succ]
  refine AnyX.take (i := 9) (v := ?_) rfl (by kernel_rfl) (by kernel_rfl) (by kernel_rfl) (by kernel_rfl) (fun _ _ _ h => h) (by rfl) (fun w hw => ?_) HSd.out ?_
  rotate_left
  · obtain ⟨s0, s1, s2, s3, s4, s5⟩ := hw
    go_simp
    try with_reducible rfl
  try simp only [Act.put, List.setIfInBounds_toArray, List.set_cons_zero, List.set_cons_succ]
  refine AnyX.take (i := 10) (v := ?_) rfl (by kernel_rfl) (by kernel_rfl) (by kernel_rfl) (by kernel_rfl) (fun _ _ _ h => h) (by rfl) (fun w hw => ?_) HSd.out ?_
  rotate_left
  · obtain ⟨s0, s1, s2, s3, s4, s5⟩ := hw
    go_simp
    try with_reducible rfl
  try simp only [Act.put, List.setIfInBounds_toArray, List.set_cons_zero, List.set_cons_succ]
  refine AnyX.take (i := 11) (v := ?_) rfl (by kernel_rfl) (by kernel_rfl) (by kernel_rfl) (by kernel_rfl) (fun _ _ _ h => h) (by rfl) (fun w hw => ?_) HSd.out ?_
  rotate_left
  · obtain ⟨s0, s1, s2, s3, s4, s5⟩ := hw
    go_simp
    try with_reducible rfl
  try simp only [Act.put, List.setIfInBounds_toArray, List.set_cons_zero, List.set_cons_succ]
  refine AnyX.take (i := 12) (v := ?_) rfl (by kernel_rfl) (by kernel_rfl) (by kernel_rfl) (by kernel_rfl) (fun _ _ _ h => h) (by rfl) (fun w hw => ?_) HSd.out ?_
  rotate_left
  · obtain ⟨s0, s1, s2, s3, s4, s5⟩ := hw
    go_simp
    try with_reducible rfl
  try simp only [Act.put, List.setIfInBounds_toArray, List.set_cons_zero, List.set_cons_succ]
  refine AnyX.take (i := 13) (v := ?_) rfl (by kernel_rfl) (by kernel_rfl) (by kernel_rfl) (by kernel_rfl) (fun _ _ _ h => h) (by rfl) (fun w hw => ?_) HSd.out ?_
  rotate_left
  · obtain ⟨s0, s1, s2, s3, s4, s5⟩ := hw
    go_simp
    try with_reducible rfl
  try simp only [Act.put, List.setIfInBounds_toArray, List.set_cons_zero, List.set_cons_succ]
  refine AnyX.take (i := 14) (v := ?_) rfl (by kernel_rfl) (by kernel_rfl) (by kernel_rfl) (by kernel_rfl) (fun _ _ _ h => h) (by rfl) (fun w hw => ?_) HSd.out ?_
  rotate_left
  · obtain ⟨s0, s1, s2, s3, s4, s5⟩ := hw
    go_simp
    try with_reducible rfl
  try simp only [Act.put, List.setIfInBounds_toArray, List.set_cons_zero, List.set_cons_succ]
  refine AnyX.take (i := 15) (v := ?_) rfl (by kernel_rfl) (by kernel_rfl) (by kernel_rfl) (by kernel_rfl) (fun _ _ _ h => h) (by rfl) (fun w hw => ?_) HSd.out ?_
  rotate_left
  · obtain ⟨s0, s1, s2, s3, s4, s5⟩ := hw
    go_simp
    try with_reducible rfl
  try simp only [Act.put, List.setIfInBounds_toArray, List.set_cons_zero, List.set_cons_succ]
  refine AnyX.take (i := 16) (v := ?_) rfl (by kernel_rfl) (by kernel_rfl) (by kernel_rfl) (by kernel_rfl) (fun _ _ _ h => h) (by rfl) (fun w hw => ?_) HSd.out ?_
  rotate_left
  · obtain ⟨s0, s1, s2, s3, s4, s5⟩ := hw
    go_simp
    try with_reducible rfl
  try simp only [Act.put, List.setIfInBounds_toArray, List.set_cons_zero, List.set_cons_succ]
  refine AnyX.one (i := 17) (by kernel_rfl) rfl (fun K' HK' => ?_)
  go_simp
  refine HK'.out _ _ ⟨Or.inr HSA.out, ?_⟩
  try simp only [Act.put, List.setIfInBounds_toArray, List.set_cons_zero, List.set_cons_succ]
  refine AnyX.one (i := 18) (by kernel_rfl) rfl (fun K' HK' => ?_)
  refine TT _ _ _ _ _ _ ?_ ?_ ?_ ?_ ?_
  (any_goals rfl)
  intro v9 w9 ho9 hg9 hb9
  obtain ⟨a9, k9, rfl⟩ := owns_slice ho9
  have HS9' := HS9.out w9 hg9
  have Hx9 := Lib.hid HS9'.1
  have g9 := HS9'.2
  obtain ⟨-, -, -, -, -, d9⟩ := HS9'.1
  have HF9 := Lib.hid (HF.out a9 k9 w9 hg9 ho9)
  clear ho9 hg9 hb9 HS9' TT
  refine HK'.out _ _ ⟨Or.inr Hx9.out, ?_⟩
  clear HK'
  try simp only [Act.put, List.setIfInBounds_toArray, List.set_cons_zero, List.set_cons_succ]
  refine AnyX.one (i := 19) (by kernel_rfl) rfl (fun K' HK' => ?_)
  go_simp
  refine HK'.out _ _ ⟨Or.inr Hx9.out, ?_⟩
  clear HK'
  try simp only [Act.put, List.setIfInBounds_toArray, List.set_cons_zero, List.set_cons_succ]
  refine AnyX.one (i := 20) (by kernel_rfl) rfl (fun K' HK' => ?_)
  go_simp
  refine HK'.out _ _ ⟨Or.inr Hx9.out, ?_⟩
  clear HK'
  try simp only [Act.put, List.setIfInBounds_toArray, List.set_cons_zero, List.set_cons_succ]
  refine AnyX.one (i := 21) (by kernel_rfl) rfl (fun K' HK' => ?_)
  go_simp
  refine HK'.out _ _ ⟨Or.inr Hx9.out, ?_⟩
  clear HK'
  try simp only [Act.put, List.setIfInBounds_toArray, List.set_cons_zero, List.set_cons_succ]
  refine AnyX.one (i := 22) (by kernel_rfl) rfl (fun K' HK' => ?_)
  go_simp
  refine HK'.out _ _ ⟨Or.inl rfl, ?_⟩
  clear HK'
  refine AnyX.done (by kernel_rfl) ?_ _
  go_wp2_with fail
  (refine HK.out _ _ _ _ _ _ _ _ _ _ _ _ _ _ _ _ _ _ _ _ _ _ _ ?_; exact HF9.out _ rfl)
end Go.Proofs.Ytjlhlmnoomiblaa
