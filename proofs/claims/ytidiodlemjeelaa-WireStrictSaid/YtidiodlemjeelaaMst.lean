/-
  WireStrict: the law's walk, from its end on.
-/
import Derived.Test.YtidiodlemjeelaaMsm
import Derived.Test.YtidiodlemjeelaaStx
import Derived.Test.YtidiodlemjeelaaRqc
import Derived.Test.YtidiodlemjeelaaRqr
import Derived.Test.YtidiodlemjeelaaEg
import Derived.Test.YtidiodlemjeelaaEh
import Derived.Test.YtidiodlemjeelaaSg
import Derived.Test.YtidiodlemjeelaaRh
import Derived.Deep.CutRange
namespace Go.Proofs.Ytidiodlemjeelaa
open Go.RowKit Wm Mm Lg
set_option linter.unusedVariables false
set_option linter.unusedSimpArgs false

abbrev msgZ : Msg := ⟨0, 0, 0, 0, 0, 0, 0, [], 0, 0, noConf, [], false, 0, 0⟩
theorem size_req : (Try.prog.info? 35).map (·.size) = some 7 := by kernel_rfl
theorem size_ent : (Try.prog.info? 69).map (·.size) = some 4 := by kernel_rfl
theorem size_conf : (Try.prog.info? 52).map (·.size) = some 3 := by kernel_rfl
theorem size_snap : (Try.prog.info? 54).map (·.size) = some 6 := by kernel_rfl
theorem size_tab : (Try.prog.info? 25).map (·.size) = some 3 := by kernel_rfl
set_option maxHeartbeats 4000000 in
set_option maxRecDepth 100000 in
theorem strict_tab {v1 v2 v3 v4 v5 v6 v7 v8 v9 v10 v11 v12 v13 v14 v15 v16 v17 v18 v19 v20 v21 v22 v23 v24 v25 v26 v27 v28 v29 v30 v31 v32 v33 v34 v35 v36 v37 v38 v39 v40 v41 v42 v43 v44 v45 v46 v47 v48 v49 v50 v51 v52 v53 v54 v55 v56 v57 v58 v59 v60 v61 v62 v63 v64 v65 v66 v67 v68 v69 v70 v71 v72 v73 v74 v75 v76 v77 v78 v79 v80 v81 v82 v83 v84 v85 v86 v87 v88 v89 v90 v91 v92 v93 v94 v95 v96 v97 v98 v99 v100 v101 v102 v103 v104 v105 v106 v107 v108 v109 v110 v111 v112 v113 v114 v115 v116 v117 v118 v119 v120 v121 v122 v123 v124 v125 v126 v127 v128 v129 v130 v131 v132 v133 v134 v135 v136 v137 v138 v139 v140 v141 v142 v143 v144 v145 v146 v147 v148 v149 v150 v151 v152 v153 v154 v155 : Value} (s : List UInt8) (W : World) (post : Ending → World → Prop) (hs : s.length ≤ 9223372036854775807) (Hp : Hid (∀ w', Below W.heap.size W w' → post (.returned (.bool true)) w')) :
    Code.wp Try.prog ((Try.f7.body.bind (seqAt 24)).getD .skip) (bodyPost Try.prog Try.f7 post) ⟨#[str s, v1, v2, v3, v4, v5, v6, v7, v8, v9, v10, v11, v12, v13, v14, v15, v16, v17, v18, v19, v20, v21, v22, v23, v24, v25, v26, v27, v28, v29, v30, v31, v32, v33, v34, v35, v36, v37, v38, v39, v40, v41, v42, v43, v44, v45, v46, v47, v48, v49, v50, v51, v52, v53, v54, v55, v56, v57, v58, v59, v60, v61, v62, v63, v64, v65, v66, v67, v68, v69, v70, v71, v72, v73, v74, v75, v76, v77, v78, v79, v80, v81, v82, v83, v84, v85, v86, v87, v88, v89, v90, v91, v92, v93, v94, v95, v96, v97, v98, v99, v100, v101, v102, v103, v104, v105, v106, v107, v108, v109, v110, v111, v112, v113, v114, v115, v116, v117, v118, v119, v120, v121, v122, v123, v124, v125, v126, v127, v128, v129, v130, v131, v132, v133, v134, v135, v136, v137, v138, v139, v140, v141, v142, v143, v144, v145, v146, v147, v148, v149, v150, v151, v152, v153, v154, v155], []⟩ W := by
  conv => arg 2; whnf
  have KG := Lib.hid (wire_getTable s W hs)
  go_wp2_with fail
  refine KG.out.mono ?_
  intro e w1 hp
  cases hx : full (rdTab s) with
  | error z =>
    rw [hx] at hp
    obtain ⟨rfl, hb1⟩ := hp
    have hz : z ≠ 0 := full_err (fun y hy => rdTab_err hy) hx
    have tz : (z == 0) = false := beq_eq_false_iff_ne.2 hz
    have tz2 : (z != 0) = true := by rw [bne_iff_ne]; exact hz
    clear hz
    obtain ⟨W2, hW2⟩ := hide (w1.alloc (.cells [.slice none 0 0, .slice none 0 0, .int .i64 0].toArray 25))
    obtain ⟨D, hD⟩ := hide w1.heap.size
    have hb2 : Below W.heap.size W W2 := by rw [← hW2.out]; exact hb1.alloc hb1.size _
    have hbn : Below w1.heap.size w1 W2 := by rw [← hW2.out]; exact (Below.refl _ _).alloc (Nat.le_refl _) _
    have HD : Hid (W2.heap[D]? = some (.cells [.slice none 0 0, .slice none 0 0, .int .i64 0].toArray 25 (0, 0))) := by show _ = _; rw [← hW2.out, ← hD.out]; exact hp_at _ _ rfl
    have KP := Lib.hid (wire_putTable _ _ ⟨[], [], 0⟩ W2 (TabF.nil 0 W2 0).table2)
    have Hb2 := Lib.hid hb2
    clear hb2 hbn hb1 hx
    try unfold zReq
    go_upto_region 25 with fail
    rw [hW2.out]
    try rw [hD.out]
    refine wp_region_lit ?_
    refine wpList_load_row rfl 25 (.tmp 13) rfl D rfl 25 [.slice none 0 0, .slice none 0 0, .int .i64 0].toArray (0, 0) _ HD.out Try.underlying25 rfl size_tab ?_
    go_wp2_with fail
    refine KP.out.mono ?_
    rintro e w3 ⟨rfl, hb3⟩
    have hb4 := Hb2.out.trans (hb3.mono Hb2.out.size)
    have HP2 : Hid (post (.returned (.bool true)) w3) := Hp.out _ hb4
    clear hb3 hb4
    go_wp2_with fail
    first | exact HP2.out | (go_ret; exact HP2.out)
  | ok q =>
    rw [hx] at hp
    obtain ⟨vp, vs, rfl, hcf, hb1⟩ := hp
    obtain ⟨a1, p1, rfl⟩ := hcf.p.slice
    obtain ⟨a2, p2, rfl⟩ := hcf.s.slice
    have hst := rdTab_strict (full_ok hx)
    have e1 : putTabB q = s := by rw [putTabB, if_pos hst.2, hst.1, List.append_nil]
    have e2 : putTabE q = 0 := by rw [putTabE, if_pos hst.2]
    obtain ⟨W2, hW2⟩ := hide (w1.alloc (.cells [.slice a1 q.pairs.length p1, .slice a2 q.sess.length p2, .int .i64 q.time].toArray 25))
    obtain ⟨D, hD⟩ := hide w1.heap.size
    have hb2 : Below W.heap.size W W2 := by rw [← hW2.out]; exact hb1.alloc hb1.size _
    have hbn : Below w1.heap.size w1 W2 := by rw [← hW2.out]; exact (Below.refl _ _).alloc (Nat.le_refl _) _
    have HD : Hid (W2.heap[D]? = some (.cells [.slice a1 q.pairs.length p1, .slice a2 q.sess.length p2, .int .i64 q.time].toArray 25 (0, 0))) := by show _ = _; rw [← hW2.out, ← hD.out]; exact hp_at _ _ rfl
    have KP := Lib.hid (wire_putTable _ _ q W2 (hcf.table2.mono hbn))
    rw [e1, e2] at KP
    have Hb2 := Lib.hid hb2
    clear hb2 hbn hb1 hx hst e1 e2
    try unfold zReq
    go_upto_region 25 with fail
    rw [hW2.out]
    try rw [hD.out]
    refine wp_region_lit ?_
    refine wpList_load_row rfl 25 (.tmp 13) rfl D rfl 25 [.slice a1 q.pairs.length p1, .slice a2 q.sess.length p2, .int .i64 q.time].toArray (0, 0) _ HD.out Try.underlying25 rfl size_tab ?_
    go_wp2_with fail
    refine KP.out.mono ?_
    rintro e w3 ⟨rfl, hb3⟩
    have hb4 := Hb2.out.trans (hb3.mono Hb2.out.size)
    have HP2 : Hid (post (.returned (.bool true)) w3) := Hp.out _ hb4
    clear hb3 hb4
    go_wp2_with fail
    first | exact HP2.out | (go_ret; exact HP2.out)
set_option maxHeartbeats 4000000 in
set_option maxRecDepth 100000 in
theorem strict_msg {v1 v2 v3 v4 v5 v6 v7 v8 v9 v10 v11 v12 v13 v14 v15 v16 v17 v18 v19 v20 v21 v22 v23 v24 v25 v26 v27 v28 v29 v30 v31 v32 v33 v34 v35 v36 v37 v38 v39 v40 v41 v42 v43 v44 v45 v46 v47 v48 v49 v50 v51 v52 v53 v54 v55 v56 v57 v58 v59 v60 v61 v62 v63 v64 v65 v66 v67 v68 v69 v70 v71 v72 v73 v74 v75 v76 v77 v78 v79 v80 v81 v82 v83 v84 v85 v86 v87 v88 v89 v90 v91 v92 v93 v94 v95 v96 v97 v98 v99 v100 v101 v102 v103 v104 v105 v106 v107 v108 v109 v110 v111 v112 v113 v114 v115 v116 v117 v118 v119 v120 v121 v122 v123 v124 v125 v126 v127 v128 v129 v130 v131 v132 v133 v134 v135 v136 v137 v138 v139 v140 v141 v142 v143 v144 v145 v146 v147 v148 v149 v150 v151 v152 v153 v154 v155 : Value} (s : List UInt8) (W : World) (post : Ending → World → Prop) (hs : s.length ≤ 9223372036854775807) (Hp : Hid (∀ w', Below W.heap.size W w' → post (.returned (.bool true)) w')) :
    Code.wp Try.prog ((Try.f7.body.bind (seqAt 20)).getD .skip) (bodyPost Try.prog Try.f7 post) ⟨#[str s, v1, v2, v3, v4, v5, v6, v7, v8, v9, v10, v11, v12, v13, v14, v15, v16, v17, v18, v19, v20, v21, v22, v23, v24, v25, v26, v27, v28, v29, v30, v31, v32, v33, v34, v35, v36, v37, v38, v39, v40, v41, v42, v43, v44, v45, v46, v47, v48, v49, v50, v51, v52, v53, v54, v55, v56, v57, v58, v59, v60, v61, v62, v63, v64, v65, v66, v67, v68, v69, v70, v71, v72, v73, v74, v75, v76, v77, v78, v79, v80, v81, v82, v83, v84, v85, v86, v87, v88, v89, v90, v91, v92, v93, v94, v95, v96, v97, v98, v99, v100, v101, v102, v103, v104, v105, v106, v107, v108, v109, v110, v111, v112, v113, v114, v115, v116, v117, v118, v119, v120, v121, v122, v123, v124, v125, v126, v127, v128, v129, v130, v131, v132, v133, v134, v135, v136, v137, v138, v139, v140, v141, v142, v143, v144, v145, v146, v147, v148, v149, v150, v151, v152, v153, v154, v155], []⟩ W := by
  conv => arg 2; whnf
  have KG := Lib.hid (wire_getMessage s W hs)
  go_wp2_with fail
  refine KG.out.mono ?_
  intro e w1 hp
  cases hx : full (rdMsg s) with
  | error z =>
    rw [hx] at hp
    obtain ⟨rfl, hb1⟩ := hp
    have hz : z ≠ 0 := full_err (fun y hy => rdMsg_err hy) hx
    have tz : (z == 0) = false := beq_eq_false_iff_ne.2 hz
    have tz2 : (z != 0) = true := by rw [bne_iff_ne]; exact hz
    clear hz
    obtain ⟨W2, hW2⟩ := hide (w1.alloc (.cells zeroMsg.toArray 56))
    obtain ⟨D, hD⟩ := hide w1.heap.size
    have hb2 : Below W.heap.size W W2 := by rw [← hW2.out]; exact hb1.alloc hb1.size _
    have hbn : Below w1.heap.size w1 W2 := by rw [← hW2.out]; exact (Below.refl _ _).alloc (Nat.le_refl _) _
    have HD : Hid (W2.heap[D]? = some (.cells zeroMsg.toArray 56 (0, 0))) := by show _ = _; rw [← hW2.out, ← hD.out]; exact hp_at _ _ rfl
    have KP := Lib.hid (wire_putMessage msgZ _ _ _ _ (fun _ => True) W2 (ents_nil _ _) (Config3F.nil 0 W2).conf)
    have Hb2 := Lib.hid hb2
    clear hb2 hbn hb1 hx
    try unfold zReq
    go_upto_region 21 with fail
    rw [hW2.out]
    try rw [hD.out]
    refine wp_region_lit ?_
    refine wpList_load_row rfl 56 (.tmp 12) rfl D rfl 56 zeroMsg.toArray (0, 0) _ HD.out Try.underlying56 rfl size_msg ?_
    go_wp2_with fail
    refine KP.out.mono ?_
    rintro e w3 ⟨rfl, hb3⟩
    have hb4 := Hb2.out.trans (hb3.mono Hb2.out.size)
    have HP2 : Hid (∀ w', Below w3.heap.size w3 w' → post (.returned (.bool true)) w') := fun w' h => Hp.out w' (hb4.trans (h.mono hb4.size))
    clear hb3 hb4
    go_upto_if 134 with (fail)
    iterate 12 (first | done | exact strict_tab s w3 post hs HP2 | go_step)
  | ok q =>
    rw [hx] at hp
    obtain ⟨ev, x, y, z, rfl, hcf, hb1⟩ := hp
    obtain ⟨ae, cpe, rfl, _, _⟩ := hcf.e.slice
    obtain ⟨a1, p1, rfl⟩ := hcf.c.v.len
    obtain ⟨a2, p2, rfl⟩ := hcf.c.n.len
    obtain ⟨a3, p3, rfl⟩ := hcf.c.l.len
    have hst := rdMsg_strict (full_ok hx)
    have e1 : putMsgB q = s := by rw [putMsgB, if_pos hst.2, hst.1, List.append_nil]
    have e2 : putMsgE q = 0 := by rw [putMsgE, if_pos hst.2]
    obtain ⟨W2, hW2⟩ := hide (w1.alloc (.cells (rowMsg q (.slice ae q.ents.length cpe) (.slice a1 q.sc.v.length p1) (.slice a2 q.sc.n.length p2) (.slice a3 q.sc.l.length p3)).toArray 56))
    obtain ⟨D, hD⟩ := hide w1.heap.size
    have hb2 : Below W.heap.size W W2 := by rw [← hW2.out]; exact hb1.alloc hb1.size _
    have hbn : Below w1.heap.size w1 W2 := by rw [← hW2.out]; exact (Below.refl _ _).alloc (Nat.le_refl _) _
    have HD : Hid (W2.heap[D]? = some (.cells (rowMsg q (.slice ae q.ents.length cpe) (.slice a1 q.sc.v.length p1) (.slice a2 q.sc.n.length p2) (.slice a3 q.sc.l.length p3)).toArray 56 (0, 0))) := by show _ = _; rw [← hW2.out, ← hD.out]; exact hp_at _ _ rfl
    have KP := Lib.hid (wire_putMessage q _ _ _ _ _ W2 (hcf.e.frame (Plain.good _) (Agree.below hbn)) (hcf.c.conf.mono hbn))
    rw [e1, e2] at KP
    have Hb2 := Lib.hid hb2
    clear hb2 hbn hb1 hx hst e1 e2
    try unfold zReq
    go_upto_region 21 with fail
    rw [hW2.out]
    try rw [hD.out]
    refine wp_region_lit ?_
    refine wpList_load_row rfl 56 (.tmp 12) rfl D rfl 56 (rowMsg q (.slice ae q.ents.length cpe) (.slice a1 q.sc.v.length p1) (.slice a2 q.sc.n.length p2) (.slice a3 q.sc.l.length p3)).toArray (0, 0) _ HD.out Try.underlying56 rfl size_msg ?_
    go_wp2_with fail
    refine KP.out.mono ?_
    rintro e w3 ⟨rfl, hb3⟩
    have hb4 := Hb2.out.trans (hb3.mono Hb2.out.size)
    have HP2 : Hid (∀ w', Below w3.heap.size w3 w' → post (.returned (.bool true)) w') := fun w' h => Hp.out w' (hb4.trans (h.mono hb4.size))
    clear hb3 hb4
    go_upto_if 134 with (fail)
    iterate 12 (first | done | exact strict_tab s w3 post hs HP2 | go_step)
set_option maxHeartbeats 4000000 in
set_option maxRecDepth 100000 in
theorem strict_snap {v1 v2 v3 v4 v5 v6 v7 v8 v9 v10 v11 v12 v13 v14 v15 v16 v17 v18 v19 v20 v21 v22 v23 v24 v25 v26 v27 v28 v29 v30 v31 v32 v33 v34 v35 v36 v37 v38 v39 v40 v41 v42 v43 v44 v45 v46 v47 v48 v49 v50 v51 v52 v53 v54 v55 v56 v57 v58 v59 v60 v61 v62 v63 v64 v65 v66 v67 v68 v69 v70 v71 v72 v73 v74 v75 v76 v77 v78 v79 v80 v81 v82 v83 v84 v85 v86 v87 v88 v89 v90 v91 v92 v93 v94 v95 v96 v97 v98 v99 v100 v101 v102 v103 v104 v105 v106 v107 v108 v109 v110 v111 v112 v113 v114 v115 v116 v117 v118 v119 v120 v121 v122 v123 v124 v125 v126 v127 v128 v129 v130 v131 v132 v133 v134 v135 v136 v137 v138 v139 v140 v141 v142 v143 v144 v145 v146 v147 v148 v149 v150 v151 v152 v153 v154 v155 : Value} (s : List UInt8) (W : World) (post : Ending → World → Prop) (hs : s.length ≤ 9223372036854775807) (Hp : Hid (∀ w', Below W.heap.size W w' → post (.returned (.bool true)) w')) :
    Code.wp Try.prog ((Try.f7.body.bind (seqAt 16)).getD .skip) (bodyPost Try.prog Try.f7 post) ⟨#[str s, v1, v2, v3, v4, v5, v6, v7, v8, v9, v10, v11, v12, v13, v14, v15, v16, v17, v18, v19, v20, v21, v22, v23, v24, v25, v26, v27, v28, v29, v30, v31, v32, v33, v34, v35, v36, v37, v38, v39, v40, v41, v42, v43, v44, v45, v46, v47, v48, v49, v50, v51, v52, v53, v54, v55, v56, v57, v58, v59, v60, v61, v62, v63, v64, v65, v66, v67, v68, v69, v70, v71, v72, v73, v74, v75, v76, v77, v78, v79, v80, v81, v82, v83, v84, v85, v86, v87, v88, v89, v90, v91, v92, v93, v94, v95, v96, v97, v98, v99, v100, v101, v102, v103, v104, v105, v106, v107, v108, v109, v110, v111, v112, v113, v114, v115, v116, v117, v118, v119, v120, v121, v122, v123, v124, v125, v126, v127, v128, v129, v130, v131, v132, v133, v134, v135, v136, v137, v138, v139, v140, v141, v142, v143, v144, v145, v146, v147, v148, v149, v150, v151, v152, v153, v154, v155], []⟩ W := by
  conv => arg 2; whnf
  have KG := Lib.hid (wire_getSnapshot s W hs)
  go_wp2_with fail
  refine KG.out.mono ?_
  intro e w1 hp
  cases hx : full (rdSnap s) with
  | error z =>
    rw [hx] at hp
    obtain ⟨rfl, hb1⟩ := hp
    have hz : z ≠ 0 := full_err (fun y hy => rdSnap_err hy) hx
    have tz : (z == 0) = false := beq_eq_false_iff_ne.2 hz
    have tz2 : (z != 0) = true := by rw [bne_iff_ne]; exact hz
    clear hz
    obtain ⟨W2, hW2⟩ := hide (w1.alloc (.cells [.int .i64 0, .int .i64 0, .slice none 0 0, .slice none 0 0, .slice none 0 0, str []].toArray 54))
    obtain ⟨D, hD⟩ := hide w1.heap.size
    have hb2 : Below W.heap.size W W2 := by rw [← hW2.out]; exact hb1.alloc hb1.size _
    have hbn : Below w1.heap.size w1 W2 := by rw [← hW2.out]; exact (Below.refl _ _).alloc (Nat.le_refl _) _
    have HD : Hid (W2.heap[D]? = some (.cells [.int .i64 0, .int .i64 0, .slice none 0 0, .slice none 0 0, .slice none 0 0, str []].toArray 54 (0, 0))) := by show _ = _; rw [← hW2.out, ← hD.out]; exact hp_at _ _ rfl
    have KP := Lib.hid (wire_putSnapshot 0 0 _ _ _ ⟨[], [], []⟩ [] W2 (Config3F.nil 0 W2).conf)
    have Hb2 := Lib.hid hb2
    clear hb2 hbn hb1 hx
    try unfold zReq
    go_upto_region 17 with fail
    rw [hW2.out]
    try rw [hD.out]
    refine wp_region_lit ?_
    refine wpList_load_row rfl 54 (.tmp 11) rfl D rfl 54 [.int .i64 0, .int .i64 0, .slice none 0 0, .slice none 0 0, .slice none 0 0, str []].toArray (0, 0) _ HD.out Try.underlying54 rfl size_snap ?_
    go_wp2_with fail
    refine KP.out.mono ?_
    rintro e w3 ⟨rfl, hb3⟩
    have hb4 := Hb2.out.trans (hb3.mono Hb2.out.size)
    have HP2 : Hid (∀ w', Below w3.heap.size w3 w' → post (.returned (.bool true)) w') := fun w' h => Hp.out w' (hb4.trans (h.mono hb4.size))
    clear hb3 hb4
    go_upto_if 113 with (fail)
    iterate 12 (first | done | exact strict_msg s w3 post hs HP2 | go_step)
  | ok q =>
    rw [hx] at hp
    obtain ⟨x, y, z, rfl, hcf, hb1⟩ := hp
    obtain ⟨a1, p1, rfl⟩ := hcf.v.len
    obtain ⟨a2, p2, rfl⟩ := hcf.n.len
    obtain ⟨a3, p3, rfl⟩ := hcf.l.len
    have hst := rdSnap_strict (full_ok hx)
    have e1 : putSnapB q.index q.term q.conf q.data = s := by rw [putSnapB, if_pos hst.2, hst.1, List.append_nil]; rfl
    have e2 : putSnapE q.index q.term q.conf q.data = 0 := by rw [putSnapE, if_pos hst.2]
    obtain ⟨W2, hW2⟩ := hide (w1.alloc (.cells [.int .i64 q.index, .int .i64 q.term, .slice a1 q.conf.v.length p1, .slice a2 q.conf.n.length p2, .slice a3 q.conf.l.length p3, str q.data].toArray 54))
    obtain ⟨D, hD⟩ := hide w1.heap.size
    have hb2 : Below W.heap.size W W2 := by rw [← hW2.out]; exact hb1.alloc hb1.size _
    have hbn : Below w1.heap.size w1 W2 := by rw [← hW2.out]; exact (Below.refl _ _).alloc (Nat.le_refl _) _
    have HD : Hid (W2.heap[D]? = some (.cells [.int .i64 q.index, .int .i64 q.term, .slice a1 q.conf.v.length p1, .slice a2 q.conf.n.length p2, .slice a3 q.conf.l.length p3, str q.data].toArray 54 (0, 0))) := by show _ = _; rw [← hW2.out, ← hD.out]; exact hp_at _ _ rfl
    have KP := Lib.hid (wire_putSnapshot q.index q.term _ _ _ q.conf q.data W2 (hcf.conf.mono hbn))
    rw [e1, e2] at KP
    have Hb2 := Lib.hid hb2
    clear hb2 hbn hb1 hx hst e1 e2
    try unfold zReq
    go_upto_region 17 with fail
    rw [hW2.out]
    try rw [hD.out]
    refine wp_region_lit ?_
    refine wpList_load_row rfl 54 (.tmp 11) rfl D rfl 54 [.int .i64 q.index, .int .i64 q.term, .slice a1 q.conf.v.length p1, .slice a2 q.conf.n.length p2, .slice a3 q.conf.l.length p3, str q.data].toArray (0, 0) _ HD.out Try.underlying54 rfl size_snap ?_
    go_wp2_with fail
    refine KP.out.mono ?_
    rintro e w3 ⟨rfl, hb3⟩
    have hb4 := Hb2.out.trans (hb3.mono Hb2.out.size)
    have HP2 : Hid (∀ w', Below w3.heap.size w3 w' → post (.returned (.bool true)) w') := fun w' h => Hp.out w' (hb4.trans (h.mono hb4.size))
    clear hb3 hb4
    go_upto_if 113 with (fail)
    iterate 12 (first | done | exact strict_msg s w3 post hs HP2 | go_step)
set_option maxHeartbeats 4000000 in
set_option maxRecDepth 100000 in
theorem strict_conf {v1 v2 v3 v4 v5 v6 v7 v8 v9 v10 v11 v12 v13 v14 v15 v16 v17 v18 v19 v20 v21 v22 v23 v24 v25 v26 v27 v28 v29 v30 v31 v32 v33 v34 v35 v36 v37 v38 v39 v40 v41 v42 v43 v44 v45 v46 v47 v48 v49 v50 v51 v52 v53 v54 v55 v56 v57 v58 v59 v60 v61 v62 v63 v64 v65 v66 v67 v68 v69 v70 v71 v72 v73 v74 v75 v76 v77 v78 v79 v80 v81 v82 v83 v84 v85 v86 v87 v88 v89 v90 v91 v92 v93 v94 v95 v96 v97 v98 v99 v100 v101 v102 v103 v104 v105 v106 v107 v108 v109 v110 v111 v112 v113 v114 v115 v116 v117 v118 v119 v120 v121 v122 v123 v124 v125 v126 v127 v128 v129 v130 v131 v132 v133 v134 v135 v136 v137 v138 v139 v140 v141 v142 v143 v144 v145 v146 v147 v148 v149 v150 v151 v152 v153 v154 v155 : Value} (s : List UInt8) (W : World) (post : Ending → World → Prop) (hs : s.length ≤ 9223372036854775807) (Hp : Hid (∀ w', Below W.heap.size W w' → post (.returned (.bool true)) w')) :
    Code.wp Try.prog ((Try.f7.body.bind (seqAt 12)).getD .skip) (bodyPost Try.prog Try.f7 post) ⟨#[str s, v1, v2, v3, v4, v5, v6, v7, v8, v9, v10, v11, v12, v13, v14, v15, v16, v17, v18, v19, v20, v21, v22, v23, v24, v25, v26, v27, v28, v29, v30, v31, v32, v33, v34, v35, v36, v37, v38, v39, v40, v41, v42, v43, v44, v45, v46, v47, v48, v49, v50, v51, v52, v53, v54, v55, v56, v57, v58, v59, v60, v61, v62, v63, v64, v65, v66, v67, v68, v69, v70, v71, v72, v73, v74, v75, v76, v77, v78, v79, v80, v81, v82, v83, v84, v85, v86, v87, v88, v89, v90, v91, v92, v93, v94, v95, v96, v97, v98, v99, v100, v101, v102, v103, v104, v105, v106, v107, v108, v109, v110, v111, v112, v113, v114, v115, v116, v117, v118, v119, v120, v121, v122, v123, v124, v125, v126, v127, v128, v129, v130, v131, v132, v133, v134, v135, v136, v137, v138, v139, v140, v141, v142, v143, v144, v145, v146, v147, v148, v149, v150, v151, v152, v153, v154, v155], []⟩ W := by
  conv => arg 2; whnf
  have KG := Lib.hid (wire_getConfig s W hs)
  go_wp2_with fail
  refine KG.out.mono ?_
  intro e w1 hp
  cases hx : full (rdConf s) with
  | error z =>
    rw [hx] at hp
    obtain ⟨rfl, hb1⟩ := hp
    have hz : z ≠ 0 := full_err (fun y hy => rdConf_err hy) hx
    have tz : (z == 0) = false := beq_eq_false_iff_ne.2 hz
    have tz2 : (z != 0) = true := by rw [bne_iff_ne]; exact hz
    clear hz
    obtain ⟨W2, hW2⟩ := hide (w1.alloc (.cells [.slice none 0 0, .slice none 0 0, .slice none 0 0].toArray 52))
    obtain ⟨D, hD⟩ := hide w1.heap.size
    have hb2 : Below W.heap.size W W2 := by rw [← hW2.out]; exact hb1.alloc hb1.size _
    have hbn : Below w1.heap.size w1 W2 := by rw [← hW2.out]; exact (Below.refl _ _).alloc (Nat.le_refl _) _
    have HD : Hid (W2.heap[D]? = some (.cells [.slice none 0 0, .slice none 0 0, .slice none 0 0].toArray 52 (0, 0))) := by show _ = _; rw [← hW2.out, ← hD.out]; exact hp_at _ _ rfl
    have KP := Lib.hid (wire_putConfig _ _ _ ⟨[], [], []⟩ W2 (Config3F.nil 0 W2).conf)
    have Hb2 := Lib.hid hb2
    clear hb2 hbn hb1 hx
    try unfold zReq
    go_upto_region 13 with fail
    rw [hW2.out]
    try rw [hD.out]
    refine wp_region_lit ?_
    refine wpList_load_row rfl 52 (.tmp 10) rfl D rfl 52 [.slice none 0 0, .slice none 0 0, .slice none 0 0].toArray (0, 0) _ HD.out Try.underlying52 rfl size_conf ?_
    go_wp2_with fail
    refine KP.out.mono ?_
    rintro e w3 ⟨rfl, hb3⟩
    have hb4 := Hb2.out.trans (hb3.mono Hb2.out.size)
    have HP2 : Hid (∀ w', Below w3.heap.size w3 w' → post (.returned (.bool true)) w') := fun w' h => Hp.out w' (hb4.trans (h.mono hb4.size))
    clear hb3 hb4
    go_upto_if 92 with (fail)
    iterate 12 (first | done | exact strict_snap s w3 post hs HP2 | go_step)
  | ok q =>
    rw [hx] at hp
    obtain ⟨x, y, z, rfl, hcf, hb1⟩ := hp
    obtain ⟨a1, p1, rfl⟩ := hcf.v.len
    obtain ⟨a2, p2, rfl⟩ := hcf.n.len
    obtain ⟨a3, p3, rfl⟩ := hcf.l.len
    have hst := rdConf_strict (full_ok hx)
    have e1 : putConfB q = s := by rw [putConfB, if_pos hst.2, hst.1, List.append_nil]
    have e2 : putConfE q = 0 := by rw [putConfE, if_pos hst.2]
    obtain ⟨W2, hW2⟩ := hide (w1.alloc (.cells [.slice a1 q.v.length p1, .slice a2 q.n.length p2, .slice a3 q.l.length p3].toArray 52))
    obtain ⟨D, hD⟩ := hide w1.heap.size
    have hb2 : Below W.heap.size W W2 := by rw [← hW2.out]; exact hb1.alloc hb1.size _
    have hbn : Below w1.heap.size w1 W2 := by rw [← hW2.out]; exact (Below.refl _ _).alloc (Nat.le_refl _) _
    have HD : Hid (W2.heap[D]? = some (.cells [.slice a1 q.v.length p1, .slice a2 q.n.length p2, .slice a3 q.l.length p3].toArray 52 (0, 0))) := by show _ = _; rw [← hW2.out, ← hD.out]; exact hp_at _ _ rfl
    have KP := Lib.hid (wire_putConfig _ _ _ q W2 (hcf.conf.mono hbn))
    rw [e1, e2] at KP
    have Hb2 := Lib.hid hb2
    clear hb2 hbn hb1 hx hst e1 e2
    try unfold zReq
    go_upto_region 13 with fail
    rw [hW2.out]
    try rw [hD.out]
    refine wp_region_lit ?_
    refine wpList_load_row rfl 52 (.tmp 10) rfl D rfl 52 [.slice a1 q.v.length p1, .slice a2 q.n.length p2, .slice a3 q.l.length p3].toArray (0, 0) _ HD.out Try.underlying52 rfl size_conf ?_
    go_wp2_with fail
    refine KP.out.mono ?_
    rintro e w3 ⟨rfl, hb3⟩
    have hb4 := Hb2.out.trans (hb3.mono Hb2.out.size)
    have HP2 : Hid (∀ w', Below w3.heap.size w3 w' → post (.returned (.bool true)) w') := fun w' h => Hp.out w' (hb4.trans (h.mono hb4.size))
    clear hb3 hb4
    go_upto_if 92 with (fail)
    iterate 12 (first | done | exact strict_snap s w3 post hs HP2 | go_step)
set_option maxHeartbeats 4000000 in
set_option maxRecDepth 100000 in
theorem strict_ent {v1 v2 v3 v4 v5 v6 v7 v8 v9 v10 v11 v12 v13 v14 v15 v16 v17 v18 v19 v20 v21 v22 v23 v24 v25 v26 v27 v28 v29 v30 v31 v32 v33 v34 v35 v36 v37 v38 v39 v40 v41 v42 v43 v44 v45 v46 v47 v48 v49 v50 v51 v52 v53 v54 v55 v56 v57 v58 v59 v60 v61 v62 v63 v64 v65 v66 v67 v68 v69 v70 v71 v72 v73 v74 v75 v76 v77 v78 v79 v80 v81 v82 v83 v84 v85 v86 v87 v88 v89 v90 v91 v92 v93 v94 v95 v96 v97 v98 v99 v100 v101 v102 v103 v104 v105 v106 v107 v108 v109 v110 v111 v112 v113 v114 v115 v116 v117 v118 v119 v120 v121 v122 v123 v124 v125 v126 v127 v128 v129 v130 v131 v132 v133 v134 v135 v136 v137 v138 v139 v140 v141 v142 v143 v144 v145 v146 v147 v148 v149 v150 v151 v152 v153 v154 v155 : Value} (s : List UInt8) (W : World) (post : Ending → World → Prop) (hs : s.length ≤ 9223372036854775807) (Hp : Hid (∀ w', Below W.heap.size W w' → post (.returned (.bool true)) w')) :
    Code.wp Try.prog ((Try.f7.body.bind (seqAt 8)).getD .skip) (bodyPost Try.prog Try.f7 post) ⟨#[str s, v1, v2, v3, v4, v5, v6, v7, v8, v9, v10, v11, v12, v13, v14, v15, v16, v17, v18, v19, v20, v21, v22, v23, v24, v25, v26, v27, v28, v29, v30, v31, v32, v33, v34, v35, v36, v37, v38, v39, v40, v41, v42, v43, v44, v45, v46, v47, v48, v49, v50, v51, v52, v53, v54, v55, v56, v57, v58, v59, v60, v61, v62, v63, v64, v65, v66, v67, v68, v69, v70, v71, v72, v73, v74, v75, v76, v77, v78, v79, v80, v81, v82, v83, v84, v85, v86, v87, v88, v89, v90, v91, v92, v93, v94, v95, v96, v97, v98, v99, v100, v101, v102, v103, v104, v105, v106, v107, v108, v109, v110, v111, v112, v113, v114, v115, v116, v117, v118, v119, v120, v121, v122, v123, v124, v125, v126, v127, v128, v129, v130, v131, v132, v133, v134, v135, v136, v137, v138, v139, v140, v141, v142, v143, v144, v145, v146, v147, v148, v149, v150, v151, v152, v153, v154, v155], []⟩ W := by
  conv => arg 2; whnf
  have KG := Lib.hid (wire_getEntry s W hs)
  go_wp2_with fail
  refine KG.out.mono ?_
  intro e w1 hp
  cases hx : full (rdEnt s) with
  | error z =>
    rw [hx] at hp
    obtain ⟨rfl, hb1⟩ := hp
    have hz : z ≠ 0 := full_err (fun y hy => rdEnt_err hy) hx
    have tz : (z == 0) = false := beq_eq_false_iff_ne.2 hz
    have tz2 : (z != 0) = true := by rw [bne_iff_ne]; exact hz
    clear hz
    obtain ⟨W2, hW2⟩ := hide (w1.alloc (.cells [.int .i64 0, .int .i64 0, .int .i64 0, str []].toArray 69))
    obtain ⟨D, hD⟩ := hide w1.heap.size
    have hb2 : Below W.heap.size W W2 := by rw [← hW2.out]; exact hb1.alloc hb1.size _
    have hbn : Below w1.heap.size w1 W2 := by rw [← hW2.out]; exact (Below.refl _ _).alloc (Nat.le_refl _) _
    have HD : Hid (W2.heap[D]? = some (.cells [.int .i64 0, .int .i64 0, .int .i64 0, str []].toArray 69 (0, 0))) := by show _ = _; rw [← hW2.out, ← hD.out]; exact hp_at _ _ rfl
    have KP := Lib.hid (wire_putEntry 0 0 0 [] W2)
    have Hb2 := Lib.hid hb2
    clear hb2 hbn hb1 hx
    try unfold zReq
    go_upto_region 9 with fail
    rw [hW2.out]
    try rw [hD.out]
    refine wp_region_lit ?_
    refine wpList_load_row rfl 69 (.tmp 9) rfl D rfl 69 [.int .i64 0, .int .i64 0, .int .i64 0, str []].toArray (0, 0) _ HD.out Try.underlying69 rfl size_ent ?_
    go_wp2_with fail
    refine KP.out.mono ?_
    rintro e w3 ⟨rfl, hb3⟩
    have hb4 := Hb2.out.trans (hb3.mono Hb2.out.size)
    have HP2 : Hid (∀ w', Below w3.heap.size w3 w' → post (.returned (.bool true)) w') := fun w' h => Hp.out w' (hb4.trans (h.mono hb4.size))
    clear hb3 hb4
    go_upto_if 71 with (fail)
    iterate 12 (first | done | exact strict_conf s w3 post hs HP2 | go_step)
  | ok q =>
    rw [hx] at hp
    obtain ⟨rfl, hb1⟩ := hp
    have hst := rdEnt_strict (full_ok hx)
    have e1 : putEntB q.index q.term q.kind q.data = s := by rw [putEntB, if_pos hst.2, hst.1, List.append_nil]; rfl
    have e2 : putEntE q.index q.term q.kind q.data = 0 := by rw [putEntE, if_pos hst.2]
    obtain ⟨W2, hW2⟩ := hide (w1.alloc (.cells [.int .i64 q.index, .int .i64 q.term, .int .i64 q.kind, str q.data].toArray 69))
    obtain ⟨D, hD⟩ := hide w1.heap.size
    have hb2 : Below W.heap.size W W2 := by rw [← hW2.out]; exact hb1.alloc hb1.size _
    have hbn : Below w1.heap.size w1 W2 := by rw [← hW2.out]; exact (Below.refl _ _).alloc (Nat.le_refl _) _
    have HD : Hid (W2.heap[D]? = some (.cells [.int .i64 q.index, .int .i64 q.term, .int .i64 q.kind, str q.data].toArray 69 (0, 0))) := by show _ = _; rw [← hW2.out, ← hD.out]; exact hp_at _ _ rfl
    have KP := Lib.hid (wire_putEntry q.index q.term q.kind q.data W2)
    rw [e1, e2] at KP
    have Hb2 := Lib.hid hb2
    clear hb2 hbn hb1 hx hst e1 e2
    try unfold zReq
    go_upto_region 9 with fail
    rw [hW2.out]
    try rw [hD.out]
    refine wp_region_lit ?_
    refine wpList_load_row rfl 69 (.tmp 9) rfl D rfl 69 [.int .i64 q.index, .int .i64 q.term, .int .i64 q.kind, str q.data].toArray (0, 0) _ HD.out Try.underlying69 rfl size_ent ?_
    go_wp2_with fail
    refine KP.out.mono ?_
    rintro e w3 ⟨rfl, hb3⟩
    have hb4 := Hb2.out.trans (hb3.mono Hb2.out.size)
    have HP2 : Hid (∀ w', Below w3.heap.size w3 w' → post (.returned (.bool true)) w') := fun w' h => Hp.out w' (hb4.trans (h.mono hb4.size))
    clear hb3 hb4
    go_upto_if 71 with (fail)
    iterate 12 (first | done | exact strict_conf s w3 post hs HP2 | go_step)
set_option maxHeartbeats 4000000 in
set_option maxRecDepth 100000 in
theorem strict_req {v1 v2 v3 v4 v5 v6 v7 v8 v9 v10 v11 v12 v13 v14 v15 v16 v17 v18 v19 v20 v21 v22 v23 v24 v25 v26 v27 v28 v29 v30 v31 v32 v33 v34 v35 v36 v37 v38 v39 v40 v41 v42 v43 v44 v45 v46 v47 v48 v49 v50 v51 v52 v53 v54 v55 v56 v57 v58 v59 v60 v61 v62 v63 v64 v65 v66 v67 v68 v69 v70 v71 v72 v73 v74 v75 v76 v77 v78 v79 v80 v81 v82 v83 v84 v85 v86 v87 v88 v89 v90 v91 v92 v93 v94 v95 v96 v97 v98 v99 v100 v101 v102 v103 v104 v105 v106 v107 v108 v109 v110 v111 v112 v113 v114 v115 v116 v117 v118 v119 v120 v121 v122 v123 v124 v125 v126 v127 v128 v129 v130 v131 v132 v133 v134 v135 v136 v137 v138 v139 v140 v141 v142 v143 v144 v145 v146 v147 v148 v149 v150 v151 v152 v153 v154 v155 : Value} (s : List UInt8) (W : World) (post : Ending → World → Prop) (hs : s.length ≤ 9223372036854775807) (Hp : Hid (∀ w', Below W.heap.size W w' → post (.returned (.bool true)) w')) :
    Code.wp Try.prog ((Try.f7.body.bind (seqAt 4)).getD .skip) (bodyPost Try.prog Try.f7 post) ⟨#[str s, v1, v2, v3, v4, v5, v6, v7, v8, v9, v10, v11, v12, v13, v14, v15, v16, v17, v18, v19, v20, v21, v22, v23, v24, v25, v26, v27, v28, v29, v30, v31, v32, v33, v34, v35, v36, v37, v38, v39, v40, v41, v42, v43, v44, v45, v46, v47, v48, v49, v50, v51, v52, v53, v54, v55, v56, v57, v58, v59, v60, v61, v62, v63, v64, v65, v66, v67, v68, v69, v70, v71, v72, v73, v74, v75, v76, v77, v78, v79, v80, v81, v82, v83, v84, v85, v86, v87, v88, v89, v90, v91, v92, v93, v94, v95, v96, v97, v98, v99, v100, v101, v102, v103, v104, v105, v106, v107, v108, v109, v110, v111, v112, v113, v114, v115, v116, v117, v118, v119, v120, v121, v122, v123, v124, v125, v126, v127, v128, v129, v130, v131, v132, v133, v134, v135, v136, v137, v138, v139, v140, v141, v142, v143, v144, v145, v146, v147, v148, v149, v150, v151, v152, v153, v154, v155], []⟩ W := by
  conv => arg 2; whnf
  have KG := Lib.hid (wire_getRequest s W hs)
  go_wp2_with fail
  refine KG.out.mono ?_
  intro e w1 hp
  cases hx : full (rdReq s) with
  | error z =>
    rw [hx] at hp
    obtain ⟨rfl, hb1⟩ := hp
    have hz : z ≠ 0 := full_err (fun y hy => rdReq_err hy) hx
    have tz : (z == 0) = false := beq_eq_false_iff_ne.2 hz
    have tz2 : (z != 0) = true := by rw [bne_iff_ne]; exact hz
    clear hz
    obtain ⟨W2, hW2⟩ := hide (w1.alloc (.cells [.int .i64 0, .int .i64 0, .int .i64 0, str [], str [], .int .i64 0, .int .i64 0].toArray 35))
    obtain ⟨D, hD⟩ := hide w1.heap.size
    have hb2 : Below W.heap.size W W2 := by rw [← hW2.out]; exact hb1.alloc hb1.size _
    have hbn : Below w1.heap.size w1 W2 := by rw [← hW2.out]; exact (Below.refl _ _).alloc (Nat.le_refl _) _
    have HD : Hid (W2.heap[D]? = some (.cells [.int .i64 0, .int .i64 0, .int .i64 0, str [], str [], .int .i64 0, .int .i64 0].toArray 35 (0, 0))) := by show _ = _; rw [← hW2.out, ← hD.out]; exact hp_at _ _ rfl
    have KP := Lib.hid (wire_putRequest 0 0 0 [] [] 0 0 W2)
    have Hb2 := Lib.hid hb2
    clear hb2 hbn hb1 hx
    try unfold zReq
    go_upto_region 5 with fail
    rw [hW2.out]
    try rw [hD.out]
    refine wp_region_lit ?_
    refine wpList_load_row rfl 35 (.tmp 5) rfl D rfl 35 [.int .i64 0, .int .i64 0, .int .i64 0, str [], str [], .int .i64 0, .int .i64 0].toArray (0, 0) _ HD.out Try.underlying35 rfl size_req ?_
    go_wp2_with fail
    refine KP.out.mono ?_
    rintro e w3 ⟨rfl, hb3⟩
    have hb4 := Hb2.out.trans (hb3.mono Hb2.out.size)
    have HP2 : Hid (∀ w', Below w3.heap.size w3 w' → post (.returned (.bool true)) w') := fun w' h => Hp.out w' (hb4.trans (h.mono hb4.size))
    clear hb3 hb4
    go_upto_if 50 with (fail)
    iterate 12 (first | done | exact strict_ent s w3 post hs HP2 | go_step)
  | ok q =>
    rw [hx] at hp
    obtain ⟨rfl, hb1⟩ := hp
    have hst := rdReq_strict (full_ok hx)
    have e1 : putReq q.client q.number q.cmd.kind q.cmd.key q.cmd.val q.cmd.iff q.time = s := by rw [hst.1, List.append_nil]
    have e2 : putReqE q.client q.number q.cmd.kind q.cmd.key q.cmd.val q.cmd.iff q.time = 0 := by rw [putReqE, if_pos hst.2]
    obtain ⟨W2, hW2⟩ := hide (w1.alloc (.cells [.int .i64 q.client, .int .i64 q.number, .int .i64 q.cmd.kind, str q.cmd.key, str q.cmd.val, .int .i64 q.cmd.iff, .int .i64 q.time].toArray 35))
    obtain ⟨D, hD⟩ := hide w1.heap.size
    have hb2 : Below W.heap.size W W2 := by rw [← hW2.out]; exact hb1.alloc hb1.size _
    have hbn : Below w1.heap.size w1 W2 := by rw [← hW2.out]; exact (Below.refl _ _).alloc (Nat.le_refl _) _
    have HD : Hid (W2.heap[D]? = some (.cells [.int .i64 q.client, .int .i64 q.number, .int .i64 q.cmd.kind, str q.cmd.key, str q.cmd.val, .int .i64 q.cmd.iff, .int .i64 q.time].toArray 35 (0, 0))) := by show _ = _; rw [← hW2.out, ← hD.out]; exact hp_at _ _ rfl
    have KP := Lib.hid (wire_putRequest q.client q.number q.cmd.kind q.cmd.key q.cmd.val q.cmd.iff q.time W2)
    rw [e1, e2] at KP
    have Hb2 := Lib.hid hb2
    clear hb2 hbn hb1 hx hst e1 e2
    try unfold zReq
    go_upto_region 5 with fail
    rw [hW2.out]
    try rw [hD.out]
    refine wp_region_lit ?_
    refine wpList_load_row rfl 35 (.tmp 5) rfl D rfl 35 [.int .i64 q.client, .int .i64 q.number, .int .i64 q.cmd.kind, str q.cmd.key, str q.cmd.val, .int .i64 q.cmd.iff, .int .i64 q.time].toArray (0, 0) _ HD.out Try.underlying35 rfl size_req ?_
    go_wp2_with fail
    refine KP.out.mono ?_
    rintro e w3 ⟨rfl, hb3⟩
    have hb4 := Hb2.out.trans (hb3.mono Hb2.out.size)
    have HP2 : Hid (∀ w', Below w3.heap.size w3 w' → post (.returned (.bool true)) w') := fun w' h => Hp.out w' (hb4.trans (h.mono hb4.size))
    clear hb3 hb4
    go_upto_if 50 with (fail)
    iterate 12 (first | done | exact strict_ent s w3 post hs HP2 | go_step)

set_option maxHeartbeats 4000000 in
set_option maxRecDepth 100000 in
theorem law_strict (s : List UInt8) (w : World) (hs : s.length ≤ 9223372036854775807) :
    Calls Try.prog 7 #[str s] w fun e w' => e = .returned (.bool true) ∧ Below w.heap.size w w' := by
  obtain ⟨post, HP⟩ := hide (fun (e : Ending) (w' : World) => e = .returned (.bool true) ∧ Below w.heap.size w w')
  rw [HP.out]
  have KG := wire_getRequest [0, 5, 7] w (by simp)
  have e1 : full (rdReq [0, 5, 7]) = .ok ⟨0, 5, ⟨0, [], [], 0⟩, 7⟩ := by simp [rdReq, rdNum, rdNumAt, full]
  rw [e1] at KG
  have KG := Lib.hid KG
  clear e1
  go_enter Try.func7, Try.ntmps7
  go_wp2_with fail
  refine KG.out.mono ?_
  rintro e w1 ⟨rfl, hb1⟩
  obtain ⟨W2, hW2⟩ := hide (w1.alloc (.cells #[.int .i64 0, .int .i64 5, .int .i64 0, str [], str [], .int .i64 0, .int .i64 7] 35))
  obtain ⟨D, hD⟩ := hide w1.heap.size
  have hb2 : Below w.heap.size w W2 := by rw [← hW2.out]; exact hb1.alloc hb1.size _
  have hd : W2.heap[D]? = some (.cells #[.int .i64 0, .int .i64 5, .int .i64 0, str [], str [], .int .i64 0, .int .i64 7] 35 (0, 0)) := by rw [← hW2.out, ← hD.out]; exact hp_at _ _ rfl
  have HP2 : Hid (∀ w', Below W2.heap.size W2 w' → post (.returned (.bool true)) w') := by
    show ∀ w', _ → _
    intro w' h
    rw [← HP.out]
    exact ⟨rfl, hb2.trans (h.mono hb2.size)⟩
  have d1 := cell_n hd 1 (v := .int .i64 5) rfl
  have d3 := cell_n hd 6 (v := .int .i64 7) rfl
  clear hb1 hb2 hd
  go_upto_region 2 with fail
  rw [hW2.out]
  try rw [hD.out]
  go_upto_if 29 with (fail)
  iterate 12 (first | done | exact strict_req s W2 post hs HP2 | go_step)
end Go.Proofs.Ytidiodlemjeelaa
