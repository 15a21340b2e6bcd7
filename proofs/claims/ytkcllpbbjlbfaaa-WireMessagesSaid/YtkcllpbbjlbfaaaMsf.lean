/-
  Messages: may one be (package wire)?
-/
import Derived.Test.YtkcllpbbjlbfaaaMse
import Derived.Test.YtkcllpbbjlbfaaaSp
import Derived.Test.YtkcllpbbjlbfaaaPce
import Derived.Deep.Cut
namespace Go.Proofs.Ytkcllpbbjlbfaaa
open Go.RowKit Wm Mm Lg
set_option linter.unusedVariables false
set_option linter.unusedSimpArgs false

def plainU (u m : Msg) : Bool := (u.index == m.index) && ((u.logTerm == m.logTerm) && ((u.commit == m.commit) && (((u.ents.length : Int) == (m.ents.length : Int)) && ((u.rej == m.rej) && ((u.hint == m.hint) && ((u.ctx == m.ctx) && sameSnapB u.si u.st u.sc u.sd m.si m.st m.sc m.sd))))))

set_option maxHeartbeats 4000000 in
set_option maxRecDepth 100000 in
theorem isMsg_plain {v0 v2 v4 v5 v6 v7 v8 v9 v10 v11 v12 v13 v14 v15 v16 v17 v18 v19 v20 v21 v22 v23 v24 v25 v26 v27 v28 v29 v30 v31 v32 v33 v34 v35 v36 v37 v38 v39 v40 v41 v42 v43 v44 v45 v46 v47 v48 v49 v50 v51 v52 v53 v54 v55 v56 v57 v58 v59 v60 v61 v62 v63 v64 v65 v66 v67 v68 v69 v70 v71 v72 v73 v74 v75 v76 v77 v78 v79 v80 v81 v82 v83 v84 v85 v86 v87 v88 v89 v90 v91 v92 v93 v94 v95 v96 v97 v98 v99 v100 v101 v102 v103 v104 v105 v106 v107 v108 v109 v110 v111 v112 v113 v114 v115 v116 v117 v118 v119 v120 v121 v122 v123 v124 v125 v126 v127 v128 v129 v130 v131 v132 v133 v134 v135 v136 v137 v138 v139 v140 v141 v142 v143 v144 v145 v146 v147 v148 v149 v150 v151 v152 v153 v154 v155 v156 v157 v158 v159 v160 v161 v162 v163 v164 v165 v166 v167 v168 v169 v170 v171 v172 v173 v174 v175 v176 v177 v178 v179 v180 v181 v182 v183 v184 v185 v186 v187 v188 v189 v190 : Value} (m u : Msg) (ae ax ay az : Option Addr) (ce cx cy cz : Nat) (ae' ax' ay' az' : Option Addr) (ce' cx' cy' cz' : Nat) (B C : Nat) (W : World)
    (HB : Hid (W.heap[B]? = some (.cells (rowMsg m (.slice ae m.ents.length ce) (.slice ax m.sc.v.length cx) (.slice ay m.sc.n.length cy) (.slice az m.sc.l.length cz)).toArray 29 (0, 0)))) (HC : Hid (W.heap[C]? = some (.cells (rowMsg u (.slice ae' u.ents.length ce') (.slice ax' u.sc.v.length cx') (.slice ay' u.sc.n.length cy') (.slice az' u.sc.l.length cz')).toArray 29 (0, 0))))
    (HCm : Hid (Config3 W (.slice ax m.sc.v.length cx) (.slice ay m.sc.n.length cy) (.slice az m.sc.l.length cz) m.sc)) (HCu : Hid (Config3 W (.slice ax' u.sc.v.length cx') (.slice ay' u.sc.n.length cy') (.slice az' u.sc.l.length cz') u.sc))
    (K : Act → World → Prop)
    (HK : Hid (∀ (u4 u9 u10 u11 u12 u13 u14 u15 u16 u17 u18 u19 u20 u21 u22 u23 u24 u25 u26 u27 u28 u29 u30 u31 u32 u33 u34 u35 u36 u37 u38 u39 u40 u41 u42 u43 u44 u45 u46 u47 u48 u49 u50 u51 u52 u53 u54 u55 u56 u57 u58 u59 u60 u61 u62 u63 u64 : Value) (wx : World), (∃ rb : Bool, u4 = .bool rb ∧ rb = plainU u m ∧ Below W.heap.size W wx) → K ⟨#[v0, .pointer (some ⟨B, 0, none⟩), v2, .pointer (some ⟨C, 0, none⟩), u4, v5, v6, v7, v8, u9, u10, u11, u12, u13, u14, u15, u16, u17, u18, u19, u20, u21, u22, u23, u24, u25, u26, u27, u28, u29, u30, u31, u32, u33, u34, u35, u36, u37, u38, u39, u40, u41, u42, u43, u44, u45, u46, u47, u48, u49, u50, u51, u52, u53, u54, u55, u56, u57, u58, u59, u60, u61, u62, u63, u64, v65, v66, v67, v68, v69, v70, v71, v72, v73, v74, v75, v76, v77, v78, v79, v80, v81, v82, v83, v84, v85, v86, v87, v88, v89, v90, v91, v92, v93, v94, v95, v96, v97, v98, v99, v100, v101, v102, v103, v104, v105, v106, v107, v108, v109, v110, v111, v112, v113, v114, v115, v116, v117, v118, v119, v120, v121, v122, v123, v124, v125, v126, v127, v128, v129, v130, v131, v132, v133, v134, v135, v136, v137, v138, v139, v140, v141, v142, v143, v144, v145, v146, v147, v148, v149, v150, v151, v152, v153, v154, v155, v156, v157, v158, v159, v160, v161, v162, v163, v164, v165, v166, v167, v168, v169, v170, v171, v172, v173, v174, v175, v176, v177, v178, v179, v180, v181, v182, v183, v184, v185, v186, v187, v188, v189, v190], []⟩ wx)) :
    Code.wp Try.prog ((Try.f11.body.bind (regionAt 2)).getD .skip) (Exit.then K fun _ _ _ => False) ⟨#[v0, .pointer (some ⟨B, 0, none⟩), v2, .pointer (some ⟨C, 0, none⟩), v4, v5, v6, v7, v8, v9, v10, v11, v12, v13, v14, v15, v16, v17, v18, v19, v20, v21, v22, v23, v24, v25, v26, v27, v28, v29, v30, v31, v32, v33, v34, v35, v36, v37, v38, v39, v40, v41, v42, v43, v44, v45, v46, v47, v48, v49, v50, v51, v52, v53, v54, v55, v56, v57, v58, v59, v60, v61, v62, v63, v64, v65, v66, v67, v68, v69, v70, v71, v72, v73, v74, v75, v76, v77, v78, v79, v80, v81, v82, v83, v84, v85, v86, v87, v88, v89, v90, v91, v92, v93, v94, v95, v96, v97, v98, v99, v100, v101, v102, v103, v104, v105, v106, v107, v108, v109, v110, v111, v112, v113, v114, v115, v116, v117, v118, v119, v120, v121, v122, v123, v124, v125, v126, v127, v128, v129, v130, v131, v132, v133, v134, v135, v136, v137, v138, v139, v140, v141, v142, v143, v144, v145, v146, v147, v148, v149, v150, v151, v152, v153, v154, v155, v156, v157, v158, v159, v160, v161, v162, v163, v164, v165, v166, v167, v168, v169, v170, v171, v172, v173, v174, v175, v176, v177, v178, v179, v180, v181, v182, v183, v184, v185, v186, v187, v188, v189, v190], []⟩ W := by
  conv => arg 2; whnf
  have hpl : ((u.index == m.index) && ((u.logTerm == m.logTerm) && ((u.commit == m.commit) && (((u.ents.length : Int) == (m.ents.length : Int)) && ((u.rej == m.rej) && ((u.hint == m.hint) && ((u.ctx == m.ctx) && sameSnapB u.si u.st u.sc u.sd m.si m.st m.sc m.sd))))))) = plainU u m := rfl
  have KS := Lib.hid (wire_sameSnapshot u.si u.st _ _ _ u.sc u.sd m.si m.st _ _ _ m.sc m.sd W HCu.out HCm.out)
  obtain ⟨r1, hr1⟩ := hide (u.index == m.index)
  obtain ⟨r2, hr2⟩ := hide (u.logTerm == m.logTerm)
  obtain ⟨r3, hr3⟩ := hide (u.commit == m.commit)
  obtain ⟨r4, hr4⟩ := hide ((u.ents.length : Int) == (m.ents.length : Int))
  obtain ⟨r5, hr5⟩ := hide (u.rej == m.rej)
  obtain ⟨r6, hr6⟩ := hide (u.hint == m.hint)
  obtain ⟨r7, hr7⟩ := hide (u.ctx == m.ctx)
  obtain ⟨r8, hr8⟩ := hide (sameSnapB u.si u.st u.sc u.sd m.si m.st m.sc m.sd)
  rw [hr1.out, hr2.out, hr3.out, hr4.out, hr5.out, hr6.out, hr7.out, hr8.out] at hpl
  rw [hr8.out] at KS
  have Hpl := Lib.hid hpl
  clear hpl hr8 HCu HCm
  have q1 : (u.index == m.index) = r1 := hr1.out
  have q2 : (u.logTerm == m.logTerm) = r2 := hr2.out
  have q3 : (u.commit == m.commit) = r3 := hr3.out
  have q4 : ((u.ents.length : Int) == (m.ents.length : Int)) = r4 := hr4.out
  have q5 : (u.rej == m.rej) = r5 := hr5.out
  have q6 : (u.hint == m.hint) = r6 := hr6.out
  have q7 : (u.ctx == m.ctx) = r7 := hr7.out
  clear hr1 hr2 hr3 hr4 hr5 hr6 hr7
  have a0 := cell_n HB.out 0 (v := .int .i64 m.kind) rfl
  have a1 := cell_n HB.out 1 (v := .int .i64 m.frm) rfl
  have a2 := cell_n HB.out 2 (v := .int .i64 m.dst) rfl
  have a3 := cell_n HB.out 3 (v := .int .i64 m.term) rfl
  have a4 := cell_n HB.out 4 (v := .int .i64 m.index) rfl
  have a5 := cell_n HB.out 5 (v := .int .i64 m.logTerm) rfl
  have a6 := cell_n HB.out 6 (v := .int .i64 m.commit) rfl
  have a7 := cell_n HB.out 7 (v := .slice ae m.ents.length ce) rfl
  have a8 := cell_n HB.out 8 (v := .int .i64 m.si) rfl
  have a9 := cell_n HB.out 9 (v := .int .i64 m.st) rfl
  have a10 := cell_n HB.out 10 (v := .slice ax m.sc.v.length cx) rfl
  have a11 := cell_n HB.out 11 (v := .slice ay m.sc.n.length cy) rfl
  have a12 := cell_n HB.out 12 (v := .slice az m.sc.l.length cz) rfl
  have a13 := cell_n HB.out 13 (v := str m.sd) rfl
  have a14 := cell_n HB.out 14 (v := .bool m.rej) rfl
  have a15 := cell_n HB.out 15 (v := .int .i64 m.hint) rfl
  have a16 := cell_n HB.out 16 (v := .int .i64 m.ctx) rfl
  have b4 := cell_n HC.out 4 (v := .int .i64 u.index) rfl
  have b5 := cell_n HC.out 5 (v := .int .i64 u.logTerm) rfl
  have b6 := cell_n HC.out 6 (v := .int .i64 u.commit) rfl
  have b7 := cell_n HC.out 7 (v := .slice ae' u.ents.length ce') rfl
  have b8 := cell_n HC.out 8 (v := .int .i64 u.si) rfl
  have b9 := cell_n HC.out 9 (v := .int .i64 u.st) rfl
  have b10 := cell_n HC.out 10 (v := .slice ax' u.sc.v.length cx') rfl
  have b11 := cell_n HC.out 11 (v := .slice ay' u.sc.n.length cy') rfl
  have b12 := cell_n HC.out 12 (v := .slice az' u.sc.l.length cz') rfl
  have b13 := cell_n HC.out 13 (v := str u.sd) rfl
  have b14 := cell_n HC.out 14 (v := .bool u.rej) rfl
  have b15 := cell_n HC.out 15 (v := .int .i64 u.hint) rfl
  have b16 := cell_n HC.out 16 (v := .int .i64 u.ctx) rfl
  cases r1 with
  | false =>
    go_wp2_with fail
    (refine HK.out _ _ _ _ _ _ _ _ _ _ _ _ _ _ _ _ _ _ _ _ _ _ _ _ _ _ _ _ _ _ _ _ _ _ _ _ _ _ _ _ _ _ _ _ _ _ _ _ _ _ _ _ _ _ _ _ _ _ ?_; exact ⟨_, rfl, Hpl.out, Below.refl _ _⟩)
  | true =>
  cases r2 with
  | false =>
    go_wp2_with fail
    (refine HK.out _ _ _ _ _ _ _ _ _ _ _ _ _ _ _ _ _ _ _ _ _ _ _ _ _ _ _ _ _ _ _ _ _ _ _ _ _ _ _ _ _ _ _ _ _ _ _ _ _ _ _ _ _ _ _ _ _ _ ?_; exact ⟨_, rfl, Hpl.out, Below.refl _ _⟩)
  | true =>
  cases r3 with
  | false =>
    go_wp2_with fail
    (refine HK.out _ _ _ _ _ _ _ _ _ _ _ _ _ _ _ _ _ _ _ _ _ _ _ _ _ _ _ _ _ _ _ _ _ _ _ _ _ _ _ _ _ _ _ _ _ _ _ _ _ _ _ _ _ _ _ _ _ _ ?_; exact ⟨_, rfl, Hpl.out, Below.refl _ _⟩)
  | true =>
  cases r4 with
  | false =>
    go_wp2_with fail
    (refine HK.out _ _ _ _ _ _ _ _ _ _ _ _ _ _ _ _ _ _ _ _ _ _ _ _ _ _ _ _ _ _ _ _ _ _ _ _ _ _ _ _ _ _ _ _ _ _ _ _ _ _ _ _ _ _ _ _ _ _ ?_; exact ⟨_, rfl, Hpl.out, Below.refl _ _⟩)
  | true =>
  cases r5 with
  | false =>
    go_wp2_with fail
    (refine HK.out _ _ _ _ _ _ _ _ _ _ _ _ _ _ _ _ _ _ _ _ _ _ _ _ _ _ _ _ _ _ _ _ _ _ _ _ _ _ _ _ _ _ _ _ _ _ _ _ _ _ _ _ _ _ _ _ _ _ ?_; exact ⟨_, rfl, Hpl.out, Below.refl _ _⟩)
  | true =>
  cases r6 with
  | false =>
    go_wp2_with fail
    (refine HK.out _ _ _ _ _ _ _ _ _ _ _ _ _ _ _ _ _ _ _ _ _ _ _ _ _ _ _ _ _ _ _ _ _ _ _ _ _ _ _ _ _ _ _ _ _ _ _ _ _ _ _ _ _ _ _ _ _ _ ?_; exact ⟨_, rfl, Hpl.out, Below.refl _ _⟩)
  | true =>
  cases r7 with
  | false =>
    go_wp2_with fail
    (refine HK.out _ _ _ _ _ _ _ _ _ _ _ _ _ _ _ _ _ _ _ _ _ _ _ _ _ _ _ _ _ _ _ _ _ _ _ _ _ _ _ _ _ _ _ _ _ _ _ _ _ _ _ _ _ _ _ _ _ _ ?_; exact ⟨_, rfl, Hpl.out, Below.refl _ _⟩)
  | true =>
  go_wp2_with fail
  refine KS.out.mono ?_
  rintro e w4 ⟨rfl, hb4⟩
  have Hb4 := Lib.hid hb4
  clear hb4
  go_wp2_with fail
  (refine HK.out _ _ _ _ _ _ _ _ _ _ _ _ _ _ _ _ _ _ _ _ _ _ _ _ _ _ _ _ _ _ _ _ _ _ _ _ _ _ _ _ _ _ _ _ _ _ _ _ _ _ _ _ _ _ _ _ _ _ ?_; exact ⟨_, rfl, Hpl.out, Hb4.out⟩)
set_option maxHeartbeats 4000000 in
set_option maxRecDepth 100000 in
theorem isMsg_head {v0 v2 v3 v5 v6 v7 v8 v9 v10 v11 v12 v13 v14 v15 v16 v17 v18 v19 v20 v21 v22 v23 v24 v25 v26 v27 v28 v29 v30 v31 v32 v33 v34 v35 v36 v37 v38 v39 v40 v41 v42 v43 v44 v45 v46 v47 v48 v49 v50 v51 v52 v53 v54 v55 v56 v57 v58 v59 v60 v61 v62 v63 v64 v65 v66 v67 v68 v69 v70 v71 v72 v73 v74 v75 v76 v77 v78 v79 v80 v81 v82 v83 v84 v85 v86 v87 v88 v89 v90 v91 v92 v93 v94 v95 v96 v97 v98 v99 v100 v101 v102 v103 v104 v105 v106 v107 v108 v109 v110 v111 v112 v113 v114 v115 v116 v117 v118 v119 v120 v121 v122 v123 v124 v125 v126 v127 v128 v129 v130 v131 v132 v133 v134 v135 v136 v137 v138 v139 v140 v141 v142 v143 v144 v145 v146 v147 v148 v149 v150 v151 v152 v153 v154 v155 v156 v157 v158 v159 v160 v161 v162 v163 v164 v165 v166 v167 v168 v169 v170 v171 v172 v173 v174 v175 v176 v177 v178 v179 v180 v181 v182 v183 v184 v185 v186 v187 v188 v189 v190 : Value} (m : Msg) (ae ax ay az : Option Addr) (ce cx cy cz : Nat) (B : Nat) (W : World)
    (HB : Hid (W.heap[B]? = some (.cells (rowMsg m (.slice ae m.ents.length ce) (.slice ax m.sc.v.length cx) (.slice ay m.sc.n.length cy) (.slice az m.sc.l.length cz)).toArray 29 (0, 0))))
    (K : Act → World → Prop)
    (HK : Hid (∀ (u65 u66 u67 u68 u69 u70 u71 u72 u73 u74 u75 u76 u77 u78 u79 u80 u81 u82 u83 u84 u85 u86 u87 u88 u89 u90 u91 u92 u93 u94 u95 u96 u97 u98 u99 u100 u101 u102 u103 u104 u105 u106 u107 u108 u109 u110 u111 u112 : Value) (wx : World), (∃ rb : Bool, u112 = .bool rb ∧ headM m = !rb ∧ W = wx) → K ⟨#[v0, .pointer (some ⟨B, 0, none⟩), v2, v3, .bool true, v5, v6, v7, v8, v9, v10, v11, v12, v13, v14, v15, v16, v17, v18, v19, v20, v21, v22, v23, v24, v25, v26, v27, v28, v29, v30, v31, v32, v33, v34, v35, v36, v37, v38, v39, v40, v41, v42, v43, v44, v45, v46, v47, v48, v49, v50, v51, v52, v53, v54, v55, v56, v57, v58, v59, v60, v61, v62, v63, v64, u65, u66, u67, u68, u69, u70, u71, u72, u73, u74, u75, u76, u77, u78, u79, u80, u81, u82, u83, u84, u85, u86, u87, u88, u89, u90, u91, u92, u93, u94, u95, u96, u97, u98, u99, u100, u101, u102, u103, u104, u105, u106, u107, u108, u109, u110, u111, u112, v113, v114, v115, v116, v117, v118, v119, v120, v121, v122, v123, v124, v125, v126, v127, v128, v129, v130, v131, v132, v133, v134, v135, v136, v137, v138, v139, v140, v141, v142, v143, v144, v145, v146, v147, v148, v149, v150, v151, v152, v153, v154, v155, v156, v157, v158, v159, v160, v161, v162, v163, v164, v165, v166, v167, v168, v169, v170, v171, v172, v173, v174, v175, v176, v177, v178, v179, v180, v181, v182, v183, v184, v185, v186, v187, v188, v189, v190], []⟩ wx)) :
    Code.wp Try.prog ((Try.f11.body.bind (regionAt 3)).getD .skip) (Exit.then K fun _ _ _ => False) ⟨#[v0, .pointer (some ⟨B, 0, none⟩), v2, v3, .bool true, v5, v6, v7, v8, v9, v10, v11, v12, v13, v14, v15, v16, v17, v18, v19, v20, v21, v22, v23, v24, v25, v26, v27, v28, v29, v30, v31, v32, v33, v34, v35, v36, v37, v38, v39, v40, v41, v42, v43, v44, v45, v46, v47, v48, v49, v50, v51, v52, v53, v54, v55, v56, v57, v58, v59, v60, v61, v62, v63, v64, v65, v66, v67, v68, v69, v70, v71, v72, v73, v74, v75, v76, v77, v78, v79, v80, v81, v82, v83, v84, v85, v86, v87, v88, v89, v90, v91, v92, v93, v94, v95, v96, v97, v98, v99, v100, v101, v102, v103, v104, v105, v106, v107, v108, v109, v110, v111, v112, v113, v114, v115, v116, v117, v118, v119, v120, v121, v122, v123, v124, v125, v126, v127, v128, v129, v130, v131, v132, v133, v134, v135, v136, v137, v138, v139, v140, v141, v142, v143, v144, v145, v146, v147, v148, v149, v150, v151, v152, v153, v154, v155, v156, v157, v158, v159, v160, v161, v162, v163, v164, v165, v166, v167, v168, v169, v170, v171, v172, v173, v174, v175, v176, v177, v178, v179, v180, v181, v182, v183, v184, v185, v186, v187, v188, v189, v190], []⟩ W := by
  conv => arg 2; whnf
  have hhd : headM m = (inB m.kind 1 7 && (inB m.frm 1 9 && (inB m.dst 1 9 && (!(m.frm == m.dst) && (inB m.term 0 1099511627775 && !((m.term == 0) && !((m.kind == 2) && m.rej))))))) := rfl
  have K1 := Lib.hid (fun w' => in_any m.kind 1 7 w')
  have K2 := Lib.hid (fun w' => in_any m.frm 1 9 w')
  have K3 := Lib.hid (fun w' => in_any m.dst 1 9 w')
  have K4 := Lib.hid (fun w' => in_any m.term 0 1099511627775 w')
  obtain ⟨s1, hs1⟩ := hide (inB m.kind 1 7)
  obtain ⟨s2, hs2⟩ := hide (inB m.frm 1 9)
  obtain ⟨s3, hs3⟩ := hide (inB m.dst 1 9)
  obtain ⟨s4, hs4⟩ := hide (m.frm == m.dst)
  obtain ⟨s5, hs5⟩ := hide (inB m.term 0 1099511627775)
  obtain ⟨s6, hs6⟩ := hide (m.term == 0)
  obtain ⟨s7, hs7⟩ := hide (m.kind == 2)
  obtain ⟨s8, hs8⟩ := hide m.rej
  rw [hs1.out, hs2.out, hs3.out, hs4.out, hs5.out, hs6.out, hs7.out, hs8.out] at hhd
  rw [hs1.out] at K1
  rw [hs2.out] at K2
  rw [hs3.out] at K3
  rw [hs5.out] at K4
  have Hhd := Lib.hid hhd
  have q4 : (m.frm == m.dst) = s4 := hs4.out
  have q6 : (m.term == 0) = s6 := hs6.out
  have q7 : (m.kind == 2) = s7 := hs7.out
  have q8 : m.rej = s8 := hs8.out
  clear hhd hs1 hs2 hs3 hs4 hs5 hs6 hs7 hs8
  have a0 := cell_n HB.out 0 (v := .int .i64 m.kind) rfl
  have a1 := cell_n HB.out 1 (v := .int .i64 m.frm) rfl
  have a2 := cell_n HB.out 2 (v := .int .i64 m.dst) rfl
  have a3 := cell_n HB.out 3 (v := .int .i64 m.term) rfl
  have a14 := cell_n HB.out 14 (v := .bool m.rej) rfl
  go_wp2_with fail
  refine (K1.out _).mono ?_
  rintro e w' ⟨rfl, rfl⟩
  cases s1 with
  | false =>
    go_wp2_with fail
    (refine HK.out _ _ _ _ _ _ _ _ _ _ _ _ _ _ _ _ _ _ _ _ _ _ _ _ _ _ _ _ _ _ _ _ _ _ _ _ _ _ _ _ _ _ _ _ _ _ _ _ _ ?_; exact ⟨_, rfl, Hhd.out, rfl⟩)
  | true =>
  go_wp2_with fail
  refine (K2.out _).mono ?_
  rintro e w' ⟨rfl, rfl⟩
  cases s2 with
  | false =>
    go_wp2_with fail
    (refine HK.out _ _ _ _ _ _ _ _ _ _ _ _ _ _ _ _ _ _ _ _ _ _ _ _ _ _ _ _ _ _ _ _ _ _ _ _ _ _ _ _ _ _ _ _ _ _ _ _ _ ?_; exact ⟨_, rfl, Hhd.out, rfl⟩)
  | true =>
  go_wp2_with fail
  refine (K3.out _).mono ?_
  rintro e w' ⟨rfl, rfl⟩
  cases s3 with
  | false =>
    go_wp2_with fail
    (refine HK.out _ _ _ _ _ _ _ _ _ _ _ _ _ _ _ _ _ _ _ _ _ _ _ _ _ _ _ _ _ _ _ _ _ _ _ _ _ _ _ _ _ _ _ _ _ _ _ _ _ ?_; exact ⟨_, rfl, Hhd.out, rfl⟩)
  | true =>
  cases s4 with
  | true =>
    go_wp2_with fail
    (refine HK.out _ _ _ _ _ _ _ _ _ _ _ _ _ _ _ _ _ _ _ _ _ _ _ _ _ _ _ _ _ _ _ _ _ _ _ _ _ _ _ _ _ _ _ _ _ _ _ _ _ ?_; exact ⟨_, rfl, Hhd.out, rfl⟩)
  | false =>
  go_wp2_with fail
  refine (K4.out _).mono ?_
  rintro e w' ⟨rfl, rfl⟩
  cases s5 with
  | false =>
    go_wp2_with fail
    (refine HK.out _ _ _ _ _ _ _ _ _ _ _ _ _ _ _ _ _ _ _ _ _ _ _ _ _ _ _ _ _ _ _ _ _ _ _ _ _ _ _ _ _ _ _ _ _ _ _ _ _ ?_; exact ⟨_, rfl, Hhd.out, rfl⟩)
  | true =>
  cases s6 <;> cases s7 <;> cases s8
  all_goals
    go_wp2_with fail
    (refine HK.out _ _ _ _ _ _ _ _ _ _ _ _ _ _ _ _ _ _ _ _ _ _ _ _ _ _ _ _ _ _ _ _ _ _ _ _ _ _ _ _ _ _ _ _ _ _ _ _ _ ?_; exact ⟨_, rfl, Hhd.out, rfl⟩)
set_option maxHeartbeats 4000000 in
set_option maxRecDepth 100000 in
theorem isMsg_body {v0 v2 v3 v4 v5 v6 v7 v8 v9 v10 v11 v12 v13 v14 v15 v16 v17 v18 v19 v20 v21 v22 v23 v24 v25 v26 v27 v28 v29 v30 v31 v32 v33 v34 v35 v36 v37 v38 v39 v40 v41 v42 v43 v44 v45 v46 v47 v48 v49 v50 v51 v52 v53 v54 v55 v56 v57 v58 v59 v60 v61 v62 v63 v64 v65 v66 v67 v68 v69 v70 v71 v72 v73 v74 v75 v76 v77 v78 v79 v80 v81 v82 v83 v84 v85 v86 v87 v88 v89 v90 v91 v92 v93 v94 v95 v96 v97 v98 v99 v100 v101 v102 v103 v104 v105 v106 v107 v108 v109 v110 v111 v112 v113 v114 v115 v116 v117 v118 v119 v120 v121 v122 v123 v124 v125 v126 v127 v128 v129 v130 v131 v132 v133 v134 v135 v136 v137 v138 v139 v140 v141 v142 v143 v144 v145 v146 v147 v148 v149 v150 v151 v152 v153 v154 v155 v156 v157 v158 v159 v160 v161 v162 v163 v164 v165 v166 v167 v168 v169 v170 v171 v172 v173 v174 v175 v176 v177 v178 v179 v180 v181 v182 v183 v184 v185 v186 v187 v188 v189 v190 : Value} (m : Msg) (ae ax ay az : Option Addr) (ce cx cy cz : Nat) (B : Nat) (W : World) (G : Nat → Prop) (post : Ending → World → Prop)
    (HB : Hid (W.heap[B]? = some (.cells (rowMsg m (.slice ae m.ents.length ce) (.slice ax m.sc.v.length cx) (.slice ay m.sc.n.length cy) (.slice az m.sc.l.length cz)).toArray 29 (0, 0)))) (HE : Hid (∀ w', Below W.heap.size W w' → Ents G w' (.slice ae m.ents.length ce) m.ents)) (HC : Hid (∀ w', Below W.heap.size W w' → Config3 w' (.slice ax m.sc.v.length cx) (.slice ay m.sc.n.length cy) (.slice az m.sc.l.length cz) m.sc))
    (hi1 : 0 ≤ m.index) (hi2 : m.index ≤ 1099511627775) (Hp : Hid (∀ b w', Below W.heap.size W w' → bodyM m = b → post (.returned (.bool b)) w')) :
    Code.wp Try.prog ((Try.f11.body.bind (seqAt 11)).getD .skip) (bodyPost Try.prog Try.f11 post) ⟨#[v0, .pointer (some ⟨B, 0, none⟩), v2, v3, v4, v5, v6, v7, v8, v9, v10, v11, v12, v13, v14, v15, v16, v17, v18, v19, v20, v21, v22, v23, v24, v25, v26, v27, v28, v29, v30, v31, v32, v33, v34, v35, v36, v37, v38, v39, v40, v41, v42, v43, v44, v45, v46, v47, v48, v49, v50, v51, v52, v53, v54, v55, v56, v57, v58, v59, v60, v61, v62, v63, v64, v65, v66, v67, v68, v69, v70, v71, v72, v73, v74, v75, v76, v77, v78, v79, v80, v81, v82, v83, v84, v85, v86, v87, v88, v89, v90, v91, v92, v93, v94, v95, v96, v97, v98, v99, v100, v101, v102, v103, v104, v105, v106, v107, v108, v109, v110, v111, v112, v113, v114, v115, v116, v117, v118, v119, v120, v121, v122, v123, v124, v125, v126, v127, v128, v129, v130, v131, v132, v133, v134, v135, v136, v137, v138, v139, v140, v141, v142, v143, v144, v145, v146, v147, v148, v149, v150, v151, v152, v153, v154, v155, v156, v157, v158, v159, v160, v161, v162, v163, v164, v165, v166, v167, v168, v169, v170, v171, v172, v173, v174, v175, v176, v177, v178, v179, v180, v181, v182, v183, v184, v185, v186, v187, v188, v189, v190], []⟩ W := by
  conv => arg 2; whnf
  have a0 := cell_n HB.out 0 (v := .int .i64 m.kind) rfl
  have a1 := cell_n HB.out 1 (v := .int .i64 m.frm) rfl
  have a2 := cell_n HB.out 2 (v := .int .i64 m.dst) rfl
  have a3 := cell_n HB.out 3 (v := .int .i64 m.term) rfl
  have a4 := cell_n HB.out 4 (v := .int .i64 m.index) rfl
  have a5 := cell_n HB.out 5 (v := .int .i64 m.logTerm) rfl
  have a6 := cell_n HB.out 6 (v := .int .i64 m.commit) rfl
  have a7 := cell_n HB.out 7 (v := .slice ae m.ents.length ce) rfl
  have a8 := cell_n HB.out 8 (v := .int .i64 m.si) rfl
  have a9 := cell_n HB.out 9 (v := .int .i64 m.st) rfl
  have a10 := cell_n HB.out 10 (v := .slice ax m.sc.v.length cx) rfl
  have a11 := cell_n HB.out 11 (v := .slice ay m.sc.n.length cy) rfl
  have a12 := cell_n HB.out 12 (v := .slice az m.sc.l.length cz) rfl
  have a13 := cell_n HB.out 13 (v := str m.sd) rfl
  have a14 := cell_n HB.out 14 (v := .bool m.rej) rfl
  have a15 := cell_n HB.out 15 (v := .int .i64 m.hint) rfl
  have a16 := cell_n HB.out 16 (v := .int .i64 m.ctx) rfl
  by_cases h5 : m.kind = 5
  · have t5 : (m.kind == 5) = true := by rw [h5]; rfl
    have hbd : bodyM m = (decide ((m.ents.length : Int) ≤ 8) && (((m.index == 0) == (m.logTerm == 0)) && (decide (m.logTerm ≤ m.term) && followB m.ents m.index m.logTerm m.term))) := by
      rw [bodyM, if_pos h5]
      congr 1
      simp only [decide_eq_decide]
      omega
    clear h5
    by_cases h8 : m.ents.length ≤ 8
    · have t8 : decide ((m.ents.length : Int) ≤ 8) = true := decide_eq_true (by omega)
      have KF := Lib.hid (wire_follow (.slice ae m.ents.length ce) m.ents m.index m.logTerm m.term G W (HE.out _ (Below.refl _ _)) hi1 hi2 h8)
      rw [t8] at hbd
      obtain ⟨r2, hr2⟩ := hide ((m.index == 0) == (m.logTerm == 0))
      obtain ⟨r3, hr3⟩ := hide (decide (m.logTerm ≤ m.term))
      obtain ⟨r4, hr4⟩ := hide (followB m.ents m.index m.logTerm m.term)
      rw [hr2.out, hr3.out, hr4.out] at hbd
      rw [hr4.out] at KF
      have Hbd := Lib.hid hbd
      have q2 : ((m.index == 0) == (m.logTerm == 0)) = r2 := hr2.out
      have q3 : decide (m.logTerm ≤ m.term) = r3 := hr3.out
      clear hbd hr2 hr3 hr4 h8 hi1 hi2
      cases r2 with
      | false =>
        have Hq := Lib.hid (Hp.out false _ (Below.refl _ _) Hbd.out)
        go_wp2_with fail
        exact Hq.out
      | true =>
      cases r3 with
      | false =>
        have Hq := Lib.hid (Hp.out false _ (Below.refl _ _) Hbd.out)
        go_wp2_with fail
        exact Hq.out
      | true =>
      go_wp2_with fail
      refine KF.out.mono ?_
      rintro e w5 ⟨rfl, hb5⟩
      have Hq := Lib.hid (Hp.out r4 _ hb5 Hbd.out)
      clear hb5
      go_wp2_with fail
      exact Hq.out
    · have t8 : decide ((m.ents.length : Int) ≤ 8) = false := decide_eq_false (by omega)
      have Hq := Lib.hid (Hp.out false _ (Below.refl _ _) (by rw [hbd, t8]; rfl))
      clear hbd h8 hi1 hi2
      go_wp2_with fail
      exact Hq.out
  have t5 : (m.kind == 5) = false := beq_eq_false_iff_ne.2 h5
  by_cases h1 : m.kind = 1 ∨ m.kind = 3
  · have hbd : bodyM m = ((m.index == 0) == (m.logTerm == 0)) := by rw [bodyM, if_neg h5, if_pos h1]
    have Hq := Lib.hid (Hp.out _ _ (Below.refl _ _) hbd)
    obtain ⟨r2, hr2⟩ := hide ((m.index == 0) == (m.logTerm == 0))
    rw [hr2.out] at Hq
    have q2 : ((m.index == 0) == (m.logTerm == 0)) = r2 := hr2.out
    clear hbd hr2 hi1 hi2 h5
    rcases h1 with h1 | h1
    · have t1 : (m.kind == 1) = true := by rw [h1]; rfl
      clear h1
      go_wp2_with fail
      exact Hq.out
    · have t1 : (m.kind == 1) = false := by rw [h1]; rfl
      have t3 : (m.kind == 3) = true := by rw [h1]; rfl
      clear h1
      go_wp2_with fail
      exact Hq.out
  have t1 : (m.kind == 1) = false := beq_eq_false_iff_ne.2 (fun h => h1 (Or.inl h))
  have t3 : (m.kind == 3) = false := beq_eq_false_iff_ne.2 (fun h => h1 (Or.inr h))
  by_cases h7 : m.kind = 7
  · have t7 : (m.kind == 7) = true := by rw [h7]; rfl
    have hbd : bodyM m = (isSnap m.si m.st m.sc m.sd && decide (m.st ≤ m.term)) := by rw [bodyM, if_neg h5, if_neg h1, if_pos h7]
    have KS := Lib.hid (wire_isSnapshot m.si m.st _ _ _ m.sc m.sd W (HC.out _ (Below.refl _ _)))
    obtain ⟨r1, hr1⟩ := hide (isSnap m.si m.st m.sc m.sd)
    obtain ⟨r2, hr2⟩ := hide (decide (m.st ≤ m.term))
    rw [hr1.out, hr2.out] at hbd
    rw [hr1.out] at KS
    have Hbd := Lib.hid hbd
    have q2 : decide (m.st ≤ m.term) = r2 := hr2.out
    clear hbd hr1 hr2 h7 h1 h5 hi1 hi2
    go_wp2_with fail
    refine KS.out.mono ?_
    rintro e w5 ⟨rfl, hb5⟩
    have HB5 : Hid (w5.heap[B]? = some (.cells (rowMsg m (.slice ae m.ents.length ce) (.slice ax m.sc.v.length cx) (.slice ay m.sc.n.length cy) (.slice az m.sc.l.length cz)).toArray 29 (0, 0))) := (hb5.block B (lt_of_block HB.out)).trans HB.out
    clear a0 a1 a2 a3 a4 a5 a6 a7 a8 a9 a10 a11 a12 a13 a14 a15 a16
    have Hb5 := Lib.hid hb5
    clear hb5
    cases r1 with
    | false =>
      have Hq := Lib.hid (Hp.out false _ Hb5.out Hbd.out)
      go_wp2_with fail
      exact Hq.out
    | true =>
    have Hq := Lib.hid (Hp.out r2 _ Hb5.out Hbd.out)
    have a3 := cell_n HB5.out 3 (v := .int .i64 m.term) rfl
    have a9 := cell_n HB5.out 9 (v := .int .i64 m.st) rfl
    go_wp2_with fail
    exact Hq.out
  · have t7 : (m.kind == 7) = false := beq_eq_false_iff_ne.2 h7
    have hbd : bodyM m = true := by rw [bodyM, if_neg h5, if_neg h1, if_neg h7]
    have Hq := Lib.hid (Hp.out true _ (Below.refl _ _) hbd)
    clear hbd h7 h1 h5 hi1 hi2
    go_wp2_with fail
    exact Hq.out
set_option maxHeartbeats 4000000 in
set_option maxRecDepth 100000 in
theorem isMsg_nums {v0 v3 v4 v5 v6 v7 v8 v9 v10 v11 v12 v13 v14 v15 v16 v17 v18 v19 v20 v21 v22 v23 v24 v25 v26 v27 v28 v29 v30 v31 v32 v33 v34 v35 v36 v37 v38 v39 v40 v41 v42 v43 v44 v45 v46 v47 v48 v49 v50 v51 v52 v53 v54 v55 v56 v57 v58 v59 v60 v61 v62 v63 v64 v65 v66 v67 v68 v69 v70 v71 v72 v73 v74 v75 v76 v77 v78 v79 v80 v81 v82 v83 v84 v85 v86 v87 v88 v89 v90 v91 v92 v93 v94 v95 v96 v97 v98 v99 v100 v101 v102 v103 v104 v105 v106 v107 v108 v109 v110 v111 v112 v113 v114 v115 v116 v117 v118 v119 v120 v121 v122 v123 v124 v125 v126 v127 v128 v129 v130 v131 v132 v133 v134 v135 v136 v137 v138 v139 v140 v141 v142 v143 v144 v145 v146 v147 v148 v149 v150 v151 v152 v153 v154 v155 v156 v157 v158 v159 v160 v161 v162 v163 v164 v165 v166 v167 v168 v169 v170 v171 v172 v173 v174 v175 v176 v177 v178 v179 v180 v181 v182 v183 v184 v185 v186 v187 v188 v189 v190 : Value} (m : Msg) (ae ax ay az : Option Addr) (ce cx cy cz : Nat) (B : Nat) (W : World) (G : Nat → Prop) (post : Ending → World → Prop)
    (HB : Hid (W.heap[B]? = some (.cells (rowMsg m (.slice ae m.ents.length ce) (.slice ax m.sc.v.length cx) (.slice ay m.sc.n.length cy) (.slice az m.sc.l.length cz)).toArray 29 (0, 0)))) (HE : Hid (∀ w', Below W.heap.size W w' → Ents G w' (.slice ae m.ents.length ce) m.ents)) (HC : Hid (∀ w', Below W.heap.size W w' → Config3 w' (.slice ax m.sc.v.length cx) (.slice ay m.sc.n.length cy) (.slice az m.sc.l.length cz) m.sc))
    (Hp : Hid (∀ b w', Below W.heap.size W w' → (numsM m && bodyM m) = b → post (.returned (.bool b)) w')) :
    Code.wp Try.prog ((Try.f11.body.bind (seqAt 5)).getD .skip) (bodyPost Try.prog Try.f11 post) ⟨#[v0, .pointer (some ⟨B, 0, none⟩), .bool false, v3, v4, v5, v6, v7, v8, v9, v10, v11, v12, v13, v14, v15, v16, v17, v18, v19, v20, v21, v22, v23, v24, v25, v26, v27, v28, v29, v30, v31, v32, v33, v34, v35, v36, v37, v38, v39, v40, v41, v42, v43, v44, v45, v46, v47, v48, v49, v50, v51, v52, v53, v54, v55, v56, v57, v58, v59, v60, v61, v62, v63, v64, v65, v66, v67, v68, v69, v70, v71, v72, v73, v74, v75, v76, v77, v78, v79, v80, v81, v82, v83, v84, v85, v86, v87, v88, v89, v90, v91, v92, v93, v94, v95, v96, v97, v98, v99, v100, v101, v102, v103, v104, v105, v106, v107, v108, v109, v110, v111, v112, v113, v114, v115, v116, v117, v118, v119, v120, v121, v122, v123, v124, v125, v126, v127, v128, v129, v130, v131, v132, v133, v134, v135, v136, v137, v138, v139, v140, v141, v142, v143, v144, v145, v146, v147, v148, v149, v150, v151, v152, v153, v154, v155, v156, v157, v158, v159, v160, v161, v162, v163, v164, v165, v166, v167, v168, v169, v170, v171, v172, v173, v174, v175, v176, v177, v178, v179, v180, v181, v182, v183, v184, v185, v186, v187, v188, v189, v190], []⟩ W := by
  conv => arg 2; whnf
  have a4 := cell_n HB.out 4 (v := .int .i64 m.index) rfl
  have a5 := cell_n HB.out 5 (v := .int .i64 m.logTerm) rfl
  have a6 := cell_n HB.out 6 (v := .int .i64 m.commit) rfl
  have a15 := cell_n HB.out 15 (v := .int .i64 m.hint) rfl
  have a16 := cell_n HB.out 16 (v := .int .i64 m.ctx) rfl
  obtain ⟨L, hL⟩ := hide [m.index, m.logTerm, m.commit, m.hint, m.ctx]
  obtain ⟨W2, hW2⟩ := hide (W.alloc (.cells #[.int .i64 m.index, .int .i64 m.logTerm, .int .i64 m.commit, .int .i64 m.hint, .int .i64 m.ctx] 3))
  obtain ⟨D, hD⟩ := hide W.heap.size
  have HbW2 : Hid (Below W.heap.size W W2) := by show Below _ _ _; rw [← hW2.out]; exact (Below.refl _ _).alloc (Nat.le_refl _) _
  have HD : Hid (∀ k (hk : k < L.length), W2.cell? ⟨D, k, none⟩ = some (.int .i64 L[k])) := by
    show ∀ k (hk : k < L.length), _
    rw [← hL.out]
    intro k hk
    have h : W2.heap[D]? = some (.cells #[.int .i64 m.index, .int .i64 m.logTerm, .int .i64 m.commit, .int .i64 m.hint, .int .i64 m.ctx] 3 (0, 0)) := by rw [← hW2.out, ← hD.out]; exact hp_at _ _ rfl
    match k, hk with
    | 0, _ => exact cell_n h 0 rfl
    | 1, _ => exact cell_n h 1 rfl
    | 2, _ => exact cell_n h 2 rfl
    | 3, _ => exact cell_n h 3 rfl
    | 4, _ => exact cell_n h 4 rfl
  have hLl : L.length = 5 := by rw [← hL.out]; rfl
  have HLl := Lib.hid hLl
  clear hLl
  have HN : Hid (numsM m = L.all big) := by
    show _ = _
    rw [← hL.out]
    simp [numsM]
  have HI : Hid (L.all big = true → 0 ≤ m.index ∧ m.index ≤ 1099511627775) := by
    show _ → _
    rw [← HN.out]
    intro h
    simp only [numsM, Bool.and_eq_true, big] at h
    exact inB_of h.1
  have HB2 : Hid (W2.heap[B]? = some (.cells (rowMsg m (.slice ae m.ents.length ce) (.slice ax m.sc.v.length cx) (.slice ay m.sc.n.length cy) (.slice az m.sc.l.length cz)).toArray 29 (0, 0))) := (HbW2.out.block B (lt_of_block HB.out)).trans HB.out
  have K := Lib.hid (fun n w' => in_any n 0 1099511627775 w')
  have hz1 : W.heap.size ≤ W2.heap.size := HbW2.out.size
  have HZ := Lib.hid hz1
  clear hz1
  go_upto_region 6 with fail
  rw [hW2.out]
  try rw [hD.out]
  clear a4 a5 a6 a15 a16
  go_wp2_with fail
  go_loop [125] (fun i => ∃ k : Nat, i = .int .i64 k ∧ k ≤ 5 ∧ Hid (∀ j (hj : j < L.length), j < k → big L[j] = true)) (fun i => 5 - (intOf i).toNat)
  case atStart => exact ⟨0, rfl, Nat.zero_le _, fun j hj h => by omega⟩
  case round =>
    obtain ⟨k, rfl, hk, hx⟩ := hrel
    by_cases hlt : k < 5
    · have hkL : k < L.length := by rw [HLl.out]; exact hlt
      have hc := HD.out k hkL
      have HkL := Lib.hid hkL
      have hbg : big L[k] = inB L[k] 0 1099511627775 := rfl
      have Hno : Hid (big L[k] = false → L.all big = false) := by
        show _ → _
        intro h
        rw [List.all_eq_false]
        exact ⟨L[k], List.getElem_mem _, by simp [h]⟩
      have Hyes : Hid (big L[k] = true → ∀ j (hj : j < L.length), j < k + 1 → big L[j] = true) := by
        show _ → _
        intro h j hj hjk
        rcases Nat.lt_or_eq_of_le (Nat.le_of_lt_succ hjk) with h2 | rfl
        · exact hx.out j hj h2
        · exact h
      generalize L[k] = y at hc hbg Hno Hyes
      obtain ⟨r, hr⟩ := hide (big y)
      rw [hr.out] at hbg Hno Hyes
      have Ky := Lib.hid (K.out y W2)
      rw [← hbg] at Ky
      clear hbg hkL hr
      have hidx : ((k : Int) < ((5 : Nat) : Int)) := by omega
      cases r with
      | false =>
        have Hq := Lib.hid (Hp.out false W2 HbW2.out (by rw [HN.out, Hno.out rfl]; rfl))
        go_wp2_with fail
        refine Ky.out.mono ?_
        rintro e w' ⟨rfl, rfl⟩
        go_wp2_with fail
        exact Hq.out
      | true =>
        have Hn := Lib.hid (Hyes.out rfl)
        clear Hno Hyes
        go_wp2_with fail
        refine Ky.out.mono ?_
        rintro e w' ⟨rfl, rfl⟩
        go_wp2_with fail
        go_round
        case rel => exact ⟨k + 1, by go_num, hlt, Hn⟩
        case measure => simp [intOf]; omega
    · have hall : L.all big = true := by
        rw [List.all_eq_true]
        intro y hy
        obtain ⟨j, hj, rfl⟩ := List.getElem_of_mem hy
        exact hx.out j hj (by have := HLl.out; omega)
      obtain ⟨h1, h2⟩ := HI.out hall
      have Hp2 : Hid (∀ b w', Below W2.heap.size W2 w' → bodyM m = b → post (.returned (.bool b)) w') := by
        show ∀ b w', _ → _ → _
        intro b w' hw hb
        exact Hp.out b w' (HbW2.out.trans (hw.mono HZ.out)) (by rw [HN.out, hall, hb]; rfl)
      have HE2 : Hid (∀ w', Below W2.heap.size W2 w' → Ents G w' (.slice ae m.ents.length ce) m.ents) := fun w' h => HE.out w' (HbW2.out.trans (h.mono HZ.out))
      have HC2 : Hid (∀ w', Below W2.heap.size W2 w' → Config3 w' (.slice ax m.sc.v.length cx) (.slice ay m.sc.n.length cy) (.slice az m.sc.l.length cz) m.sc) := fun w' h => HC.out w' (HbW2.out.trans (h.mono HZ.out))
      have H1 := Lib.hid h1
      have H2 := Lib.hid h2
      clear h1 h2 hall
      iterate 20 (first | done | exact isMsg_body m ae ax ay az ce cx cy cz B W2 G post HB2 HE2 HC2 H1.out H2.out Hp2 | go_step)

set_option maxHeartbeats 4000000 in
set_option maxRecDepth 100000 in
theorem isMessage_gen (m u : Msg) (ev x y z ev' x' y' z' : Value) (F : Nat → Prop) (w : World) (hE : Ents F w ev m.ents) (hc : Config3 w x y z m.sc) (hc' : Config3 w x' y' z' u.sc) (hev' : ∃ a c, ev' = .slice a u.ents.length c)
    (hU : ∀ w1, Calls Try.prog 38 #[vMsg m ev x y z] w1 fun e w' => e = .returned (vMsg u ev' x' y' z') ∧ Below w1.heap.size w1 w')
    (hpl : plainU u m = plainM m) :
    Calls Try.prog 11 #[vMsg m ev x y z] w fun e w' => e = .returned (.bool (isMsg m)) ∧ Below w.heap.size w w' := by
  obtain ⟨post, HP⟩ := hide (fun (e : Ending) (w' : World) => e = .returned (.bool (isMsg m)) ∧ Below w.heap.size w w')
  rw [HP.out]
  have HE : Hid (∀ w', Below w.heap.size w w' → Ents F w' ev m.ents) := fun w' hb => hE.frame (Plain.good _) (Agree.below hb)
  have HC : Hid (∀ w', Below w.heap.size w w' → Config3 w' x y z m.sc) := fun w' hb => hc.mono hb
  have HC' : Hid (∀ w', Below w.heap.size w w' → Config3 w' x' y' z' u.sc) := fun w' hb => hc'.mono hb
  obtain ⟨ae, ce, rfl, _, _⟩ := hE.slice
  obtain ⟨ax, cx, rfl, _⟩ := len_of_Ints hc.v
  obtain ⟨ay, cy, rfl, _⟩ := len_of_Ints hc.n
  obtain ⟨az, cz, rfl, _⟩ := len_of_Ints hc.l
  obtain ⟨ae', ce', rfl⟩ := hev'
  obtain ⟨ax', cx', rfl, _⟩ := len_of_Ints hc'.v
  obtain ⟨ay', cy', rfl, _⟩ := len_of_Ints hc'.n
  obtain ⟨az', cz', rfl, _⟩ := len_of_Ints hc'.l
  obtain ⟨W1, hW1⟩ := hide (w.alloc (.cells (rowMsg m (.slice ae m.ents.length ce) (.slice ax m.sc.v.length cx) (.slice ay m.sc.n.length cy) (.slice az m.sc.l.length cz)).toArray 29))
  have HbW1 : Hid (Below w.heap.size w W1) := by show Below _ _ _; rw [← hW1.out]; exact (Below.refl _ _).alloc (Nat.le_refl _) _
  have HB1 : Hid (W1.heap[w.heap.size]? = some (.cells (rowMsg m (.slice ae m.ents.length ce) (.slice ax m.sc.v.length cx) (.slice ay m.sc.n.length cy) (.slice az m.sc.l.length cz)).toArray 29 (0, 0))) := by show _ = _; rw [← hW1.out]; exact hp_at _ _ rfl
  have HU := Lib.hid (hU W1)
  have Hpl := Lib.hid hpl
  obtain ⟨B, hB⟩ := hide w.heap.size
  rw [hB.out] at HB1 HbW1 HE HC HC'
  clear hE hc hc' hU hpl
  go_enter Try.func11, Try.ntmps11
  go_upto_region 1 with fail
  rw [hW1.out]
  try rw [hB.out]
  refine wp_region_lit ?_
  refine wpList_load_row rfl 29 (.tmp 1) rfl B rfl 29 (rowMsg m (.slice ae m.ents.length ce) (.slice ax m.sc.v.length cx) (.slice ay m.sc.n.length cy) (.slice az m.sc.l.length cz)).toArray (0, 0) _ HB1.out Try.underlying29 rfl size_msg ?_
  go_wp2_with fail
  refine HU.out.mono ?_
  rintro e w2 ⟨rfl, hb2⟩
  have Hb2 := Lib.hid hb2
  clear hb2
  obtain ⟨W3, hW3⟩ := hide (w2.alloc (.cells (rowMsg u (.slice ae' u.ents.length ce') (.slice ax' u.sc.v.length cx') (.slice ay' u.sc.n.length cy') (.slice az' u.sc.l.length cz')).toArray 29))
  obtain ⟨C, hC⟩ := hide w2.heap.size
  have HbW3 : Hid (Below B w W3) := by
    show Below _ _ _
    rw [← hW3.out]
    have h := HbW1.out.trans (Hb2.out.mono (by rw [← hB.out]; exact HbW1.out.size))
    exact h.alloc (by rw [← hB.out]; exact h.size) _
  have HB3 : Hid (W3.heap[B]? = some (.cells (rowMsg m (.slice ae m.ents.length ce) (.slice ax m.sc.v.length cx) (.slice ay m.sc.n.length cy) (.slice az m.sc.l.length cz)).toArray 29 (0, 0))) := by
    show _ = _
    have h : w2.heap[B]? = some (.cells (rowMsg m (.slice ae m.ents.length ce) (.slice ax m.sc.v.length cx) (.slice ay m.sc.n.length cy) (.slice az m.sc.l.length cz)).toArray 29 (0, 0)) := (Hb2.out.block B (lt_of_block HB1.out)).trans HB1.out
    rw [← hW3.out, hp_past _ _ (by have := lt_of_block h; omega)]
    exact h
  have HC3 : Hid (W3.heap[C]? = some (.cells (rowMsg u (.slice ae' u.ents.length ce') (.slice ax' u.sc.v.length cx') (.slice ay' u.sc.n.length cy') (.slice az' u.sc.l.length cz')).toArray 29 (0, 0))) := by show _ = _; rw [← hW3.out, ← hC.out]; exact hp_at _ _ rfl
  go_upto_region 2 with fail
  rw [hW3.out]
  try rw [hC.out]
  go_cut [4] (fun c4 wc => ∃ rb : Bool, c4 = .bool rb ∧ Hid (rb = plainM m) ∧ Hid (Below W3.heap.size W3 wc))
  case first =>
    rename_i J' K' hJ' hK'
    refine piece_any (isMsg_plain m u ae ax ay az ce cx cy cz ae' ax' ay' az' ce' cx' cy' cz' B C W3 HB3 HC3 (HC.out _ HbW3.out) (HC'.out _ HbW3.out) K' ?_)
    unfold Hid
    intros
    refine hK' _ _ (Met.intro (hJ' _ _ ?_))
    (repeat apply Exists.intro)
    refine ⟨?_, rfl⟩
    rename_i hr
    obtain ⟨rb, h1, h2, h3⟩ := hr
    exact ⟨rb, h1, h2.trans Hpl.out, h3⟩
  case rest =>
    obtain ⟨rb, rfl, hrb, hbc⟩ := hcut
    obtain ⟨W4, hW4⟩ : ∃ V, V = wc := ⟨_, rfl⟩
    subst hW4
    have hbB : B ≤ W3.heap.size := by rw [← hB.out]; exact HbW3.out.size
    have HBB := Lib.hid hbB
    clear hbB
    have HbW4 : Hid (Below B w W4) := HbW3.out.trans (hbc.out.mono HBB.out)
    have HB4 : Hid (W4.heap[B]? = some (.cells (rowMsg m (.slice ae m.ents.length ce) (.slice ax m.sc.v.length cx) (.slice ay m.sc.n.length cy) (.slice az m.sc.l.length cz)).toArray 29 (0, 0))) := (hbc.out.block B (lt_of_block HB3.out)).trans HB3.out
    have Hp4 : Hid (∀ b w', Below W4.heap.size W4 w' → isMsg m = b → post (.returned (.bool b)) w') := by
      show ∀ b w', _ → _ → _
      intro b w' hw hb
      rw [← HP.out, ← hb]
      refine ⟨rfl, ?_⟩
      rw [hB.out]
      exact HbW4.out.trans (hw.mono (by rw [← hB.out]; exact HbW4.out.size))
    cases rb with
    | false =>
      have Hq := Lib.hid (Hp4.out false _ (Below.refl _ _) (by rw [isMsg, ← hrb.out]; rfl))
      go_wp2_with fail
      exact Hq.out
    | true =>
    go_upto_region 3 with fail
    go_cut [112] (fun c5 wc => ∃ rb : Bool, c5 = .bool rb ∧ Hid (headM m = !rb) ∧ W4 = wc)
    case first =>
      rename_i J' K' hJ' hK'
      refine piece_any (isMsg_head m ae ax ay az ce cx cy cz B W4 HB4 K' ?_)
      unfold Hid
      intros
      refine hK' _ _ (Met.intro (hJ' _ _ ?_))
      (repeat apply Exists.intro)
      refine ⟨?_, rfl⟩
      rename_i hr
      exact hr
    case rest =>
      obtain ⟨rb, rfl, hrb2, rfl⟩ := hcut
      cases rb with
      | true =>
        have Hq := Lib.hid (Hp4.out false _ (Below.refl _ _) (by rw [isMsg, hrb2.out]; simp))
        go_wp2_with fail
        exact Hq.out
      | false =>
        have Hp5 : Hid (∀ b w', Below W4.heap.size W4 w' → (numsM m && bodyM m) = b → post (.returned (.bool b)) w') := by
          show ∀ b w', _ → _ → _
          intro b w' hw hb
          exact Hp4.out b w' hw (by rw [isMsg, ← hrb.out, hrb2.out, ← hb]; rfl)
        have hb4z : B ≤ W4.heap.size := by rw [← hB.out]; exact HbW4.out.size
        have HE4 : Hid (∀ w', Below W4.heap.size W4 w' → Ents F w' (.slice ae m.ents.length ce) m.ents) := fun w' h => HE.out w' (HbW4.out.trans (h.mono hb4z))
        have HC4 : Hid (∀ w', Below W4.heap.size W4 w' → Config3 w' (.slice ax m.sc.v.length cx) (.slice ay m.sc.n.length cy) (.slice az m.sc.l.length cz) m.sc) := fun w' h => HC.out w' (HbW4.out.trans (h.mono hb4z))
        clear hb4z
        iterate 20 (first | done | exact isMsg_nums m ae ax ay az ce cx cy cz B W4 F post HB4 HE4 HC4 Hp5 | go_step)
end Go.Proofs.Ytkcllpbbjlbfaaa
