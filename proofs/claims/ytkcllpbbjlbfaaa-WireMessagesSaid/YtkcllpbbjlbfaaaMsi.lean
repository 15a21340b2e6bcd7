/-
  Messages as bytes (package wire).
-/
import Derived.Test.YtkcllpbbjlbfaaaMsh
import Derived.Test.YtkcllpbbjlbfaaaSp
import Derived.Test.YtkcllpbbjlbfaaaWp
namespace Go.Proofs.Ytkcllpbbjlbfaaa
open Go.RowKit Wm Mm Lg
set_option linter.unusedVariables false
set_option linter.unusedSimpArgs false

set_option maxHeartbeats 1000000 in
theorem writer_flag {w : World} {b : Nat} {xs : List UInt8} (f : Bool) (hx : xs.length ≤ 140737488355300) (h : Wr w b xs) :
    Calls Try.prog 13 #[.pointer (some ⟨b, 0, none⟩), .bool f] w fun e w' =>
      e = .returned (.tuple #[]) ∧ Wr w' b (xs ++ flagB f) ∧ BK b w w' := by
  obtain ⟨v, hb, hown⟩ := h
  have c0 := cell_of_one hb
  have f0 := free_of_one hb
  have Hb := Lib.hid hb
  have Ho := Lib.hid hown
  have hsz : b + 1 ≤ w.heap.size := lt_of_block hb
  clear hb hown
  cases f
  all_goals
    go_enter Try.func13, Try.ntmps13
    go_wp2_with (at_builtin; refine wpList_push rfl _ _ 43 rfl (b + 1) 5 (.int .u8 0) 1 1 Try.underlying43 info_u8 rfl (by decide) _ _ _ rfl Ho.out _ rfl rfl (by intro u hu; simp at hu; subst hu; rfl) (by unfold maxLen; omega) (by omega) hsz ?_)
    intro v' w1 ho hg
    obtain ⟨ao, co, rfl⟩ := owns_slice ho
  · have ho' : w1.ownsRow (b + 1) 5 1 (.slice ao (xs.length + 1) co) (xs ++ flagB false).length ((xs ++ flagB false).map bval) := by
      rw [List.map_append, List.length_append]
      exact ho
    obtain ⟨c1, f1, hw1, hb1⟩ := Wr.stored2 Hb.out Ho.out ho' hg
    have Hw := Lib.hid hw1
    have Hb1 := Lib.hid hb1
    clear ho ho' hg hw1 hb1 c0 f0
    go_wp2_with fail
    go_end0
    exact ⟨rfl, Hw.out, Hb1.out⟩
  · have ho' : w1.ownsRow (b + 1) 5 1 (.slice ao (xs.length + 1) co) (xs ++ flagB true).length ((xs ++ flagB true).map bval) := by
      rw [List.map_append, List.length_append]
      exact ho
    obtain ⟨c1, f1, hw1, hb1⟩ := Wr.stored2 Hb.out Ho.out ho' hg
    have Hw := Lib.hid hw1
    have Hb1 := Lib.hid hb1
    clear ho ho' hg hw1 hb1 c0 f0
    go_wp2_with fail
    go_end0
    exact ⟨rfl, Hw.out, Hb1.out⟩

/-- what stands while a message is written: the message's cells, the writer's bytes -/
structure PutSt (w W : World) (B bb : Nat) (cs : Array Value) (N : Nat) (xs : List UInt8) : Prop where
  bel : Below w.heap.size w W
  blk : W.heap[B]? = some (.cells cs 29 (0, 0))
  wr : Wr W bb xs
  hb : w.heap.size ≤ bb
  ne : B ≠ bb
  len : xs.length ≤ N
theorem PutSt.step {w W W' : World} {B bb N k : Nat} {cs : Array Value} {xs ys : List UInt8} (h : PutSt w W B bb cs N xs) (hw : Wr W' bb (xs ++ ys)) (hk : BK bb W W') (hy : ys.length ≤ k) : PutSt w W' B bb cs (N + k) (xs ++ ys) :=
  ⟨h.bel.trans (hk.1.mono h.hb), hk.2 B _ _ h.ne (by decide) h.blk, hw, h.hb, h.ne, by have := h.len; rw [List.length_append]; omega⟩
theorem PutSt.alloc {w W : World} {B bb N : Nat} {cs : Array Value} {xs : List UInt8} (h : PutSt w W B bb cs N xs) (o : Obj) : PutSt w (W.alloc o) B bb cs N xs := by
  obtain ⟨v, hb, ho⟩ := h.wr
  exact ⟨h.bel.alloc h.bel.size _, (hp_past _ _ (by have := lt_of_block h.blk; omega)).trans h.blk, ⟨v, (hp_past _ _ (by have := lt_of_block hb; omega)).trans hb, ho.alloc _⟩, h.hb, h.ne, h.len⟩
theorem put_num {w W : World} {B bb N : Nat} {cs : Array Value} {xs : List UInt8} (h : PutSt w W B bb cs N xs) (i : Int) (h0 : 0 ≤ i) (h1 : i ≤ 1099511627775) (hN : N ≤ 1000000) :
    Calls Try.prog 12 #[.pointer (some ⟨bb, 0, none⟩), .int .i64 i] W fun e w' => e = .returned (.tuple #[]) ∧ PutSt w w' B bb cs (N + 9) (xs ++ putNum i.toNat) := by
  obtain ⟨n, rfl⟩ : ∃ n : Nat, i = n := ⟨i.toNat, by omega⟩
  refine (writer_number_k n (by omega) (by have := h.len; omega) h.wr).mono ?_
  rintro e w' ⟨rfl, hw, hk⟩
  exact ⟨rfl, h.step hw hk (putNum_len10 (by omega))⟩
theorem put_flag {w W : World} {B bb N : Nat} {cs : Array Value} {xs : List UInt8} (h : PutSt w W B bb cs N xs) (f : Bool) (hN : N ≤ 1000000) :
    Calls Try.prog 13 #[.pointer (some ⟨bb, 0, none⟩), .bool f] W fun e w' => e = .returned (.tuple #[]) ∧ PutSt w w' B bb cs (N + 9) (xs ++ flagB f) := by
  refine (writer_flag f (by have := h.len; omega) h.wr).mono ?_
  rintro e w' ⟨rfl, hw, hk⟩
  exact ⟨rfl, h.step hw hk (by cases f <;> simp [flagB])⟩
theorem put_entry {w W : World} {B bb N : Nat} {cs : Array Value} {xs : List UInt8} (h : PutSt w W B bb cs N xs) (x : EntP) (hx : isEntry x.idx x.trm x.knd x.dat = true) (hN : N ≤ 1000000) :
    Calls Try.prog 14 #[.pointer (some ⟨bb, 0, none⟩), vEnt x.idx x.trm x.knd x.dat] W fun e w' => e = .returned (.tuple #[]) ∧ PutSt w w' B bb cs (N + 292) (xs ++ putEnt x.idx.toNat x.trm.toNat x.knd.toNat x.dat) := by
  obtain ⟨i, t, k, d⟩ := x
  obtain ⟨a, b, c, rfl, rfl, rfl, h1, h2, h3, h4⟩ := isEntry_facts hx
  refine (writer_entry a b c d (by omega) (by omega) (by omega) (by have := h.len; simp only [] at h4; omega) h.wr).mono ?_
  rintro e w' ⟨rfl, hw, hk⟩
  exact ⟨rfl, h.step hw hk (putEnt_len a b c d h1 h2 h3 h4)⟩
theorem put_snap {w W : World} {B bb N : Nat} {cs : Array Value} {xs : List UInt8} (h : PutSt w W B bb cs N xs) (si st : Int) (x y z : Value) (c : Conf) (d : List UInt8) (hx : isSnap si st c d = true) (hc : ∀ w', Below w.heap.size w w' → Config3 w' x y z c) (hN : N ≤ 1000000) :
    Calls Try.prog 15 #[.pointer (some ⟨bb, 0, none⟩), vSnap si st x y z d] W fun e w' => e = .returned (.tuple #[]) ∧ PutSt w w' B bb cs (N + 8600) (xs ++ putSnap si.toNat st.toNat c d) := by
  obtain ⟨a, b, rfl, rfl, h1, h2, h3, h4⟩ := isSnap_facts hx
  refine (writer_snapshot a b x y z c d h1 h2 h3 h4 (by have := h.len; omega) (fun w' hb => hc w' (h.bel.trans (hb.mono h.hb))) h.wr).mono ?_
  rintro e w' ⟨rfl, hw, hk⟩
  exact ⟨rfl, h.step hw hk (putSnap_len h1 h2 h3 h4)⟩
theorem putEnts_snoc (l : List EntP) (x : EntP) : putEnts (l ++ [x]) = putEnts l ++ putEnt x.idx.toNat x.trm.toNat x.knd.toNat x.dat := by
  induction l with
  | nil => simp [putEnts]
  | cons y l ih => simp [putEnts, ih]
theorem isMsg_ranges {m : Msg} (h : isMsg m = true) : 1 ≤ m.kind ∧ m.kind ≤ 7 ∧ 1 ≤ m.frm ∧ m.frm ≤ 9 ∧ 1 ≤ m.dst ∧ m.dst ≤ 9 ∧ 0 ≤ m.term ∧ m.term ≤ 1099511627775 ∧ 0 ≤ m.index ∧ m.index ≤ 1099511627775 ∧ 0 ≤ m.logTerm ∧ m.logTerm ≤ 1099511627775 ∧ 0 ≤ m.commit ∧ m.commit ≤ 1099511627775 ∧ 0 ≤ m.hint ∧ m.hint ≤ 1099511627775 ∧ 0 ≤ m.ctx ∧ m.ctx ≤ 1099511627775 := by
  simp only [isMsg, headM, numsM, big, Bool.and_eq_true] at h
  obtain ⟨_, ⟨h1, h2, h3, _, h4, _⟩, ⟨h5, h6, h7, h8, h9⟩, _⟩ := h
  have b1 := inB_of h1
  have b2 := inB_of h2
  have b3 := inB_of h3
  have b4 := inB_of h4
  have b5 := inB_of h5
  have b6 := inB_of h6
  have b7 := inB_of h7
  have b8 := inB_of h8
  have b9 := inB_of h9
  exact ⟨b1.1, b1.2, b2.1, b2.2, b3.1, b3.2, b4.1, b4.2, b5.1, b5.2, b6.1, b6.2, b7.1, b7.2, b8.1, b8.2, b9.1, b9.2⟩
theorem isMsg_bodyB {m : Msg} (h : isMsg m = true) : bodyM m = true := by
  simp only [isMsg, Bool.and_eq_true] at h
  exact h.2.2.2
theorem follow_all {l : List EntP} : ∀ {i lo hi : Int}, followB l i lo hi = true → ∀ e ∈ l, isEntry e.idx e.trm e.knd e.dat = true := by
  induction l with
  | nil => intro i lo hi h e he; cases he
  | cons x l ih =>
    intro i lo hi h e he
    simp only [followB, Bool.and_eq_true] at h
    rcases List.mem_cons.1 he with rfl | he
    · exact h.1
    · exact ih h.2.2.2.2 e he
theorem isMsg_ents {m : Msg} (h : isMsg m = true) (h5 : m.kind = 5) : m.ents.length ≤ 8 ∧ ∀ e ∈ m.ents, isEntry e.idx e.trm e.knd e.dat = true := by
  have hb := isMsg_bodyB h
  rw [bodyM, if_pos h5] at hb
  simp only [Bool.and_eq_true, decide_eq_true_eq] at hb
  exact ⟨hb.1, follow_all hb.2.2.2⟩
theorem isMsg_snap {m : Msg} (h : isMsg m = true) (h7 : m.kind = 7) : isSnap m.si m.st m.sc m.sd = true := by
  have hb := isMsg_bodyB h
  rw [bodyM, if_neg (by omega), if_neg (by omega), if_pos h7] at hb
  simp only [Bool.and_eq_true] at hb
  exact hb.1
set_option maxHeartbeats 4000000 in
set_option maxRecDepth 100000 in
theorem putM_ask {v0 v2 v3 v5 v6 v7 v8 v9 v10 v11 v12 v13 v14 v15 v16 v17 v18 v19 v20 v21 v22 v23 v24 v25 v26 v27 v28 v29 v30 v31 v32 v33 v34 v35 v36 v37 v38 v39 v40 v41 v42 v43 v44 v45 v46 v47 v48 v49 v50 v51 v52 v53 v54 v55 v56 v57 v58 v59 v60 v61 v62 v63 v64 v65 v66 v67 v68 v69 v70 v71 v72 v73 v74 v75 v76 v77 v78 v79 v80 v81 v82 v83 v84 v85 v86 v87 v88 v89 v90 v91 v92 v93 v94 v95 v96 v97 v98 v99 v100 v101 v102 v103 v104 v105 v106 v107 v108 v109 v110 v111 v112 v113 v114 : Value} (m : Msg) (ae ax ay az : Option Addr) (ce cx cy cz : Nat) (B bb N : Nat) (w W : World) (xs tot : List UInt8) (post : Ending → World → Prop)
    (hm : isMsg m = true) (hN : N ≤ 1000) (H : Hid (PutSt w W B bb (rowMsg m (.slice ae m.ents.length ce) (.slice ax m.sc.v.length cx) (.slice ay m.sc.n.length cy) (.slice az m.sc.l.length cz)).toArray N xs)) (hxs : xs ++ putTail m = tot) (Hp : Hid (∀ w', Below w.heap.size w w' → post (.returned (.tuple #[str tot, .int .i64 0])) w')) (hk : m.kind = 1 ∨ m.kind = 3) :
    Code.wp Try.prog ((Try.f5.body.bind (seqAt 8)).getD .skip) (bodyPost Try.prog Try.f5 post) ⟨#[v0, .pointer (some ⟨B, 0, none⟩), v2, v3, .pointer (some ⟨bb, 0, none⟩), v5, v6, v7, v8, v9, v10, v11, v12, v13, v14, v15, v16, v17, v18, v19, v20, v21, v22, v23, v24, v25, v26, v27, v28, v29, v30, v31, v32, v33, v34, v35, v36, v37, v38, v39, v40, v41, v42, v43, v44, v45, v46, v47, v48, v49, v50, v51, v52, v53, v54, v55, v56, v57, v58, v59, v60, v61, v62, v63, v64, v65, v66, v67, v68, v69, v70, v71, v72, v73, v74, v75, v76, v77, v78, v79, v80, v81, v82, v83, v84, v85, v86, v87, v88, v89, v90, v91, v92, v93, v94, v95, v96, v97, v98, v99, v100, v101, v102, v103, v104, v105, v106, v107, v108, v109, v110, v111, v112, v113, v114], []⟩ W := by
  conv => arg 2; whnf
  obtain ⟨g1, g2, g3, g4, g5, g6, g7, g8, g9, g10, g11, g12, g13, g14, g15, g16, g17, g18⟩ := isMsg_ranges hm
  have ht : putTail m = putNum m.index.toNat ++ (putNum m.logTerm.toNat) := by rw [putTail, if_pos hk]
  rcases hk with hk | hk
  · have t1 : (m.kind == 1) = true := by rw [hk]; rfl
    have a0 := cell_n H.out.blk 0 (v := .int .i64 m.kind) rfl
    clear hk
    have c4 := cell_n H.out.blk 4 (v := .int .i64 m.index) rfl
    have KS0 := Lib.hid (put_num H.out m.index (by omega) (by omega) (by omega))
    go_wp2_with fail
    refine KS0.out.mono ?_
    rintro e wS0 ⟨rfl, hs⟩
    have S0 := Lib.hid hs
    clear hs c4 KS0
    clear a0
    have c5 := cell_n S0.out.blk 5 (v := .int .i64 m.logTerm) rfl
    have KS1 := Lib.hid (put_num S0.out m.logTerm (by omega) (by omega) (by omega))
    go_wp2_with fail
    refine KS1.out.mono ?_
    rintro e wS1 ⟨rfl, hs⟩
    have S1 := Lib.hid hs
    clear hs c5 KS1
    have Hpf := Lib.hid (Hp.out _ S1.out.bel)
    obtain ⟨vv, hv, ho⟩ := S1.out.wr
    have d0 := cell_of_one hv
    have kc := writer_str ho
    clear hv ho
    rw [show ((xs ++ putNum m.index.toNat) ++ putNum m.logTerm.toNat) = tot from by rw [← hxs, ht] <;> simp only [List.append_assoc]] at kc
    go_wp2_with fail
    exact Hpf.out
  · have t1 : (m.kind == 1) = false := beq_eq_false_iff_ne.2 (by omega)
    have t3 : (m.kind == 3) = true := by rw [hk]; rfl
    have a0 := cell_n H.out.blk 0 (v := .int .i64 m.kind) rfl
    clear hk
    have c4 := cell_n H.out.blk 4 (v := .int .i64 m.index) rfl
    have KS0 := Lib.hid (put_num H.out m.index (by omega) (by omega) (by omega))
    go_wp2_with fail
    refine KS0.out.mono ?_
    rintro e wS0 ⟨rfl, hs⟩
    have S0 := Lib.hid hs
    clear hs c4 KS0
    clear a0
    have c5 := cell_n S0.out.blk 5 (v := .int .i64 m.logTerm) rfl
    have KS1 := Lib.hid (put_num S0.out m.logTerm (by omega) (by omega) (by omega))
    go_wp2_with fail
    refine KS1.out.mono ?_
    rintro e wS1 ⟨rfl, hs⟩
    have S1 := Lib.hid hs
    clear hs c5 KS1
    have Hpf := Lib.hid (Hp.out _ S1.out.bel)
    obtain ⟨vv, hv, ho⟩ := S1.out.wr
    have d0 := cell_of_one hv
    have kc := writer_str ho
    clear hv ho
    rw [show ((xs ++ putNum m.index.toNat) ++ putNum m.logTerm.toNat) = tot from by rw [← hxs, ht] <;> simp only [List.append_assoc]] at kc
    go_wp2_with fail
    exact Hpf.out
set_option maxHeartbeats 4000000 in
set_option maxRecDepth 100000 in
theorem putM_rep {v0 v2 v3 v5 v6 v7 v8 v9 v10 v11 v12 v13 v14 v15 v16 v17 v18 v19 v20 v21 v22 v23 v24 v25 v26 v27 v28 v29 v30 v31 v32 v33 v34 v35 v36 v37 v38 v39 v40 v41 v42 v43 v44 v45 v46 v47 v48 v49 v50 v51 v52 v53 v54 v55 v56 v57 v58 v59 v60 v61 v62 v63 v64 v65 v66 v67 v68 v69 v70 v71 v72 v73 v74 v75 v76 v77 v78 v79 v80 v81 v82 v83 v84 v85 v86 v87 v88 v89 v90 v91 v92 v93 v94 v95 v96 v97 v98 v99 v100 v101 v102 v103 v104 v105 v106 v107 v108 v109 v110 v111 v112 v113 v114 : Value} (m : Msg) (ae ax ay az : Option Addr) (ce cx cy cz : Nat) (B bb N : Nat) (w W : World) (xs tot : List UInt8) (post : Ending → World → Prop)
    (hm : isMsg m = true) (hN : N ≤ 1000) (H : Hid (PutSt w W B bb (rowMsg m (.slice ae m.ents.length ce) (.slice ax m.sc.v.length cx) (.slice ay m.sc.n.length cy) (.slice az m.sc.l.length cz)).toArray N xs)) (hxs : xs ++ putTail m = tot) (Hp : Hid (∀ w', Below w.heap.size w w' → post (.returned (.tuple #[str tot, .int .i64 0])) w')) (hk : m.kind = 2 ∨ m.kind = 4) :
    Code.wp Try.prog ((Try.f5.body.bind (seqAt 8)).getD .skip) (bodyPost Try.prog Try.f5 post) ⟨#[v0, .pointer (some ⟨B, 0, none⟩), v2, v3, .pointer (some ⟨bb, 0, none⟩), v5, v6, v7, v8, v9, v10, v11, v12, v13, v14, v15, v16, v17, v18, v19, v20, v21, v22, v23, v24, v25, v26, v27, v28, v29, v30, v31, v32, v33, v34, v35, v36, v37, v38, v39, v40, v41, v42, v43, v44, v45, v46, v47, v48, v49, v50, v51, v52, v53, v54, v55, v56, v57, v58, v59, v60, v61, v62, v63, v64, v65, v66, v67, v68, v69, v70, v71, v72, v73, v74, v75, v76, v77, v78, v79, v80, v81, v82, v83, v84, v85, v86, v87, v88, v89, v90, v91, v92, v93, v94, v95, v96, v97, v98, v99, v100, v101, v102, v103, v104, v105, v106, v107, v108, v109, v110, v111, v112, v113, v114], []⟩ W := by
  conv => arg 2; whnf
  obtain ⟨g1, g2, g3, g4, g5, g6, g7, g8, g9, g10, g11, g12, g13, g14, g15, g16, g17, g18⟩ := isMsg_ranges hm
  have ht : putTail m = flagB m.rej := by rw [putTail, if_neg (by omega), if_pos hk]
  rcases hk with hk | hk
  · have t1 : (m.kind == 1) = false := beq_eq_false_iff_ne.2 (by omega)
    have t3 : (m.kind == 3) = false := beq_eq_false_iff_ne.2 (by omega)
    have t2 : (m.kind == 2) = true := by rw [hk]; rfl
    have a0 := cell_n H.out.blk 0 (v := .int .i64 m.kind) rfl
    clear hk
    have c14 := cell_n H.out.blk 14 (v := .bool m.rej) rfl
    have KS0 := Lib.hid (put_flag H.out m.rej (by omega))
    go_wp2_with fail
    refine KS0.out.mono ?_
    rintro e wS0 ⟨rfl, hs⟩
    have S0 := Lib.hid hs
    clear hs c14 KS0
    clear a0
    have Hpf := Lib.hid (Hp.out _ S0.out.bel)
    obtain ⟨vv, hv, ho⟩ := S0.out.wr
    have d0 := cell_of_one hv
    have kc := writer_str ho
    clear hv ho
    rw [show (xs ++ flagB m.rej) = tot from by rw [← hxs, ht] <;> simp only [List.append_assoc]] at kc
    go_wp2_with fail
    exact Hpf.out
  · have t1 : (m.kind == 1) = false := beq_eq_false_iff_ne.2 (by omega)
    have t3 : (m.kind == 3) = false := beq_eq_false_iff_ne.2 (by omega)
    have t2 : (m.kind == 2) = false := beq_eq_false_iff_ne.2 (by omega)
    have t4 : (m.kind == 4) = true := by rw [hk]; rfl
    have a0 := cell_n H.out.blk 0 (v := .int .i64 m.kind) rfl
    clear hk
    have c14 := cell_n H.out.blk 14 (v := .bool m.rej) rfl
    have KS0 := Lib.hid (put_flag H.out m.rej (by omega))
    go_wp2_with fail
    refine KS0.out.mono ?_
    rintro e wS0 ⟨rfl, hs⟩
    have S0 := Lib.hid hs
    clear hs c14 KS0
    clear a0
    have Hpf := Lib.hid (Hp.out _ S0.out.bel)
    obtain ⟨vv, hv, ho⟩ := S0.out.wr
    have d0 := cell_of_one hv
    have kc := writer_str ho
    clear hv ho
    rw [show (xs ++ flagB m.rej) = tot from by rw [← hxs, ht] <;> simp only [List.append_assoc]] at kc
    go_wp2_with fail
    exact Hpf.out
set_option maxHeartbeats 4000000 in
set_option maxRecDepth 100000 in
theorem putM_app {v0 v2 v3 v5 v6 v7 v8 v9 v10 v11 v12 v13 v14 v15 v16 v17 v18 v19 v20 v21 v22 v23 v24 v25 v26 v27 v28 v29 v30 v31 v32 v33 v34 v35 v36 v37 v38 v39 v40 v41 v42 v43 v44 v45 v46 v47 v48 v49 v50 v51 v52 v53 v54 v55 v56 v57 v58 v59 v60 v61 v62 v63 v64 v65 v66 v67 v68 v69 v70 v71 v72 v73 v74 v75 v76 v77 v78 v79 v80 v81 v82 v83 v84 v85 v86 v87 v88 v89 v90 v91 v92 v93 v94 v95 v96 v97 v98 v99 v100 v101 v102 v103 v104 v105 v106 v107 v108 v109 v110 v111 v112 v113 v114 : Value} (m : Msg) (ae ax ay az : Option Addr) (ce cx cy cz : Nat) (B bb N : Nat) (w W : World) (xs tot : List UInt8) (post : Ending → World → Prop)
    (hm : isMsg m = true) (hN : N ≤ 1000) (H : Hid (PutSt w W B bb (rowMsg m (.slice ae m.ents.length ce) (.slice ax m.sc.v.length cx) (.slice ay m.sc.n.length cy) (.slice az m.sc.l.length cz)).toArray N xs)) (hxs : xs ++ putTail m = tot) (Hp : Hid (∀ w', Below w.heap.size w w' → post (.returned (.tuple #[str tot, .int .i64 0])) w')) (G : Nat → Prop) (HE : Hid (∀ w', Below w.heap.size w w' → Ents G w' (.slice ae m.ents.length ce) m.ents)) (hk : m.kind = 5) :
    Code.wp Try.prog ((Try.f5.body.bind (seqAt 8)).getD .skip) (bodyPost Try.prog Try.f5 post) ⟨#[v0, .pointer (some ⟨B, 0, none⟩), v2, v3, .pointer (some ⟨bb, 0, none⟩), v5, v6, v7, v8, v9, v10, v11, v12, v13, v14, v15, v16, v17, v18, v19, v20, v21, v22, v23, v24, v25, v26, v27, v28, v29, v30, v31, v32, v33, v34, v35, v36, v37, v38, v39, v40, v41, v42, v43, v44, v45, v46, v47, v48, v49, v50, v51, v52, v53, v54, v55, v56, v57, v58, v59, v60, v61, v62, v63, v64, v65, v66, v67, v68, v69, v70, v71, v72, v73, v74, v75, v76, v77, v78, v79, v80, v81, v82, v83, v84, v85, v86, v87, v88, v89, v90, v91, v92, v93, v94, v95, v96, v97, v98, v99, v100, v101, v102, v103, v104, v105, v106, v107, v108, v109, v110, v111, v112, v113, v114], []⟩ W := by
  conv => arg 2; whnf
  obtain ⟨g1, g2, g3, g4, g5, g6, g7, g8, g9, g10, g11, g12, g13, g14, g15, g16, g17, g18⟩ := isMsg_ranges hm
  have ht : putTail m = putNum m.index.toNat ++ (putNum m.logTerm.toNat ++ (putNum m.commit.toNat ++ (putNum m.ctx.toNat ++ (putNum m.ents.length ++ putEnts m.ents)))) := by rw [putTail, if_neg (by omega), if_neg (by omega), if_neg (by omega), if_neg (by omega)]
  obtain ⟨h8, hall⟩ := isMsg_ents hm hk
  have Hall := Lib.hid hall
  clear hall
  have t1 : (m.kind == 1) = false := beq_eq_false_iff_ne.2 (by omega)
  have t3 : (m.kind == 3) = false := beq_eq_false_iff_ne.2 (by omega)
  have t2 : (m.kind == 2) = false := beq_eq_false_iff_ne.2 (by omega)
  have t4 : (m.kind == 4) = false := beq_eq_false_iff_ne.2 (by omega)
  have t5 : (m.kind == 5) = true := by rw [hk]; rfl
  have a0 := cell_n H.out.blk 0 (v := .int .i64 m.kind) rfl
  clear hk
  have c4 := cell_n H.out.blk 4 (v := .int .i64 m.index) rfl
  have KS0 := Lib.hid (put_num H.out m.index (by omega) (by omega) (by omega))
  go_wp2_with fail
  refine KS0.out.mono ?_
  rintro e wS0 ⟨rfl, hs⟩
  have S0 := Lib.hid hs
  clear hs c4 KS0
  clear a0
  have c5 := cell_n S0.out.blk 5 (v := .int .i64 m.logTerm) rfl
  have KS1 := Lib.hid (put_num S0.out m.logTerm (by omega) (by omega) (by omega))
  go_wp2_with fail
  refine KS1.out.mono ?_
  rintro e wS1 ⟨rfl, hs⟩
  have S1 := Lib.hid hs
  clear hs c5 KS1
  have c6 := cell_n S1.out.blk 6 (v := .int .i64 m.commit) rfl
  have KS2 := Lib.hid (put_num S1.out m.commit (by omega) (by omega) (by omega))
  go_wp2_with fail
  refine KS2.out.mono ?_
  rintro e wS2 ⟨rfl, hs⟩
  have S2 := Lib.hid hs
  clear hs c6 KS2
  have c16 := cell_n S2.out.blk 16 (v := .int .i64 m.ctx) rfl
  have KS3 := Lib.hid (put_num S2.out m.ctx (by omega) (by omega) (by omega))
  go_wp2_with fail
  refine KS3.out.mono ?_
  rintro e wS3 ⟨rfl, hs⟩
  have S3 := Lib.hid hs
  clear hs c16 KS3
  have c7 := cell_n S3.out.blk 7 (v := .slice ae m.ents.length ce) rfl
  have K4 := Lib.hid (put_num S3.out (m.ents.length : Int) (by omega) (by omega) (by omega))
  go_wp2_with fail
  refine K4.out.mono ?_
  rintro e wS4 ⟨rfl, hs⟩
  have S4 := Lib.hid hs
  clear hs c7 K4
  have c7 := cell_n S4.out.blk 7 (v := .slice ae m.ents.length ce) rfl
  obtain ⟨x4, hx4⟩ := hide (((((xs ++ putNum m.index.toNat) ++ putNum m.logTerm.toNat) ++ putNum m.commit.toNat) ++ putNum m.ctx.toNat) ++ putNum (m.ents.length : Int).toNat)
  rw [hx4.out] at S4
  have Htot : Hid (x4 ++ putEnts m.ents = tot) := by
    show _ = _
    rw [← hx4.out, ← hxs, ht]
    simp only [List.append_assoc, Int.toNat_natCast]
  have hN5 : N ≤ 1000 := hN
  clear hxs ht g1 g2 g3 g4 g5 g6 g7 g8 g9 g10 g11 g12 g13 g14 g15 g16 g17 g18
  go_wp2_with fail
  clear c7
  go_loopw [74] (fun i wr => ∃ (k : Nat) (ys : List UInt8), i = .int .i64 k ∧ k ≤ m.ents.length ∧ Hid (ys = x4 ++ putEnts (m.ents.take k)) ∧ Hid (PutSt w wr B bb (rowMsg m (.slice ae m.ents.length ce) (.slice ax m.sc.v.length cx) (.slice ay m.sc.n.length cy) (.slice az m.sc.l.length cz)).toArray (N + 45 + 292 * k) ys)) (fun i _ => m.ents.length - (intOf i).toNat)
  case atStart => exact ⟨0, x4, rfl, Nat.zero_le _, by show _ = _; simp [putEnts], S4.out⟩
  case round =>
    obtain ⟨k, ys, rfl, hk, hys, hst⟩ := hrel
    by_cases hlt : k < m.ents.length
    · obtain ⟨b, off, us, rfl, _, _, hus, hcs⟩ := (HE.out _ hst.out.bel).at hlt
      have hent := Hall.out m.ents[k] (List.getElem_mem _)
      have hys2 : x4 ++ putEnts (m.ents.take (k + 1)) = ys ++ putEnt m.ents[k].idx.toNat m.ents[k].trm.toNat m.ents[k].knd.toNat m.ents[k].dat := by
        rw [List.take_succ_eq_append_getElem hlt, putEnts_snoc, hys.out, List.append_assoc]
      obtain ⟨x, hx⟩ := hide m.ents[k]
      rw [hx.out] at hus hent hys2
      have e1 : us = rowE x := hus
      subst e1
      have c0 := hcs 0 _ rfl
      have c1 := hcs 1 _ rfl
      have c2 := hcs 2 _ rfl
      have c3 := hcs 3 _ rfl
      rw [Nat.add_zero] at c0
      clear hcs hus
      have Hys2 := Lib.hid hys2
      have Hent := Lib.hid hent
      clear hys2 hent
      obtain ⟨W1, hW1⟩ := hide (wr.alloc (.cells (rowE x).toArray 40))
      obtain ⟨C, hC⟩ := hide wr.heap.size
      have HS1 : Hid (PutSt w W1 B bb (rowMsg m (.slice (some ⟨b, off, none⟩) m.ents.length ce) (.slice ax m.sc.v.length cx) (.slice ay m.sc.n.length cy) (.slice az m.sc.l.length cz)).toArray (N + 45 + 292 * k) ys) := by show PutSt _ _ _ _ _ _ _; rw [← hW1.out]; exact hst.out.alloc _
      have HC1 : Hid (W1.heap[C]? = some (.cells (rowE x).toArray 40 (0, 0))) := by show _ = _; rw [← hW1.out, ← hC.out]; exact hp_at _ _ rfl
      have K := Lib.hid (put_entry HS1.out x Hent.out (by omega))
      have q0 := cell_n HC1.out 0 (v := .int .i64 x.idx) rfl
      have q1 := cell_n HC1.out 1 (v := .int .i64 x.trm) rfl
      have q2 := cell_n HC1.out 2 (v := .int .i64 x.knd) rfl
      have q3 := cell_n HC1.out 3 (v := str x.dat) rfl
      have hidx : ((k : Int) < (m.ents.length : Int)) := by omega
      go_upto_region 25 with fail
      rw [hW1.out]
      try rw [hC.out]
      go_wp2_with fail
      refine K.out.mono ?_
      rintro e w' ⟨rfl, hs⟩
      have HS2 : Hid (PutSt w w' B bb (rowMsg m (.slice (some ⟨b, off, none⟩) m.ents.length ce) (.slice ax m.sc.v.length cx) (.slice ay m.sc.n.length cy) (.slice az m.sc.l.length cz)).toArray (N + 45 + 292 * (k + 1)) (ys ++ putEnt x.idx.toNat x.trm.toNat x.knd.toNat x.dat)) := by rw [show N + 45 + 292 * (k + 1) = N + 45 + 292 * k + 292 from by omega]; exact hs
      clear hs c0 c1 c2 c3 q0 q1 q2 q3 K
      go_wp2_with fail
      go_roundw
      case rel => exact ⟨k + 1, _, by go_num, hlt, Hys2.out.symm, HS2⟩
      case measure => simp [intOf]; omega
    · have hkn : k = m.ents.length := by omega
      have Hyt : Hid (ys = tot) := by show _ = _; rw [hys.out, hkn, List.take_length]; exact Htot.out
      clear hkn hys
      have Hpf := Lib.hid (Hp.out _ hst.out.bel)
      obtain ⟨vv, hv, ho⟩ := hst.out.wr
      have d0 := cell_of_one hv
      have kc := writer_str ho
      clear hv ho
      rw [show ys = tot from Hyt.out] at kc
      go_wp2_with fail
      exact Hpf.out
set_option maxHeartbeats 4000000 in
set_option maxRecDepth 100000 in
theorem putM_back {v0 v2 v3 v5 v6 v7 v8 v9 v10 v11 v12 v13 v14 v15 v16 v17 v18 v19 v20 v21 v22 v23 v24 v25 v26 v27 v28 v29 v30 v31 v32 v33 v34 v35 v36 v37 v38 v39 v40 v41 v42 v43 v44 v45 v46 v47 v48 v49 v50 v51 v52 v53 v54 v55 v56 v57 v58 v59 v60 v61 v62 v63 v64 v65 v66 v67 v68 v69 v70 v71 v72 v73 v74 v75 v76 v77 v78 v79 v80 v81 v82 v83 v84 v85 v86 v87 v88 v89 v90 v91 v92 v93 v94 v95 v96 v97 v98 v99 v100 v101 v102 v103 v104 v105 v106 v107 v108 v109 v110 v111 v112 v113 v114 : Value} (m : Msg) (ae ax ay az : Option Addr) (ce cx cy cz : Nat) (B bb N : Nat) (w W : World) (xs tot : List UInt8) (post : Ending → World → Prop)
    (hm : isMsg m = true) (hN : N ≤ 1000) (H : Hid (PutSt w W B bb (rowMsg m (.slice ae m.ents.length ce) (.slice ax m.sc.v.length cx) (.slice ay m.sc.n.length cy) (.slice az m.sc.l.length cz)).toArray N xs)) (hxs : xs ++ putTail m = tot) (Hp : Hid (∀ w', Below w.heap.size w w' → post (.returned (.tuple #[str tot, .int .i64 0])) w')) (hk : m.kind = 6) :
    Code.wp Try.prog ((Try.f5.body.bind (seqAt 8)).getD .skip) (bodyPost Try.prog Try.f5 post) ⟨#[v0, .pointer (some ⟨B, 0, none⟩), v2, v3, .pointer (some ⟨bb, 0, none⟩), v5, v6, v7, v8, v9, v10, v11, v12, v13, v14, v15, v16, v17, v18, v19, v20, v21, v22, v23, v24, v25, v26, v27, v28, v29, v30, v31, v32, v33, v34, v35, v36, v37, v38, v39, v40, v41, v42, v43, v44, v45, v46, v47, v48, v49, v50, v51, v52, v53, v54, v55, v56, v57, v58, v59, v60, v61, v62, v63, v64, v65, v66, v67, v68, v69, v70, v71, v72, v73, v74, v75, v76, v77, v78, v79, v80, v81, v82, v83, v84, v85, v86, v87, v88, v89, v90, v91, v92, v93, v94, v95, v96, v97, v98, v99, v100, v101, v102, v103, v104, v105, v106, v107, v108, v109, v110, v111, v112, v113, v114], []⟩ W := by
  conv => arg 2; whnf
  obtain ⟨g1, g2, g3, g4, g5, g6, g7, g8, g9, g10, g11, g12, g13, g14, g15, g16, g17, g18⟩ := isMsg_ranges hm
  have ht : putTail m = putNum m.index.toNat ++ (flagB m.rej ++ (putNum m.hint.toNat ++ (putNum m.ctx.toNat))) := by rw [putTail, if_neg (by omega), if_neg (by omega), if_pos hk]
  have t1 : (m.kind == 1) = false := beq_eq_false_iff_ne.2 (by omega)
  have t3 : (m.kind == 3) = false := beq_eq_false_iff_ne.2 (by omega)
  have t2 : (m.kind == 2) = false := beq_eq_false_iff_ne.2 (by omega)
  have t4 : (m.kind == 4) = false := beq_eq_false_iff_ne.2 (by omega)
  have t5 : (m.kind == 5) = false := beq_eq_false_iff_ne.2 (by omega)
  have t6 : (m.kind == 6) = true := by rw [hk]; rfl
  have a0 := cell_n H.out.blk 0 (v := .int .i64 m.kind) rfl
  clear hk
  have c4 := cell_n H.out.blk 4 (v := .int .i64 m.index) rfl
  have KS0 := Lib.hid (put_num H.out m.index (by omega) (by omega) (by omega))
  go_wp2_with fail
  refine KS0.out.mono ?_
  rintro e wS0 ⟨rfl, hs⟩
  have S0 := Lib.hid hs
  clear hs c4 KS0
  clear a0
  have c14 := cell_n S0.out.blk 14 (v := .bool m.rej) rfl
  have KS1 := Lib.hid (put_flag S0.out m.rej (by omega))
  go_wp2_with fail
  refine KS1.out.mono ?_
  rintro e wS1 ⟨rfl, hs⟩
  have S1 := Lib.hid hs
  clear hs c14 KS1
  have c15 := cell_n S1.out.blk 15 (v := .int .i64 m.hint) rfl
  have KS2 := Lib.hid (put_num S1.out m.hint (by omega) (by omega) (by omega))
  go_wp2_with fail
  refine KS2.out.mono ?_
  rintro e wS2 ⟨rfl, hs⟩
  have S2 := Lib.hid hs
  clear hs c15 KS2
  have c16 := cell_n S2.out.blk 16 (v := .int .i64 m.ctx) rfl
  have KS3 := Lib.hid (put_num S2.out m.ctx (by omega) (by omega) (by omega))
  go_wp2_with fail
  refine KS3.out.mono ?_
  rintro e wS3 ⟨rfl, hs⟩
  have S3 := Lib.hid hs
  clear hs c16 KS3
  have Hpf := Lib.hid (Hp.out _ S3.out.bel)
  obtain ⟨vv, hv, ho⟩ := S3.out.wr
  have d0 := cell_of_one hv
  have kc := writer_str ho
  clear hv ho
  rw [show ((((xs ++ putNum m.index.toNat) ++ flagB m.rej) ++ putNum m.hint.toNat) ++ putNum m.ctx.toNat) = tot from by rw [← hxs, ht] <;> simp only [List.append_assoc]] at kc
  go_wp2_with fail
  exact Hpf.out
set_option maxHeartbeats 4000000 in
set_option maxRecDepth 100000 in
theorem putM_inst {v0 v2 v3 v5 v6 v7 v8 v9 v10 v11 v12 v13 v14 v15 v16 v17 v18 v19 v20 v21 v22 v23 v24 v25 v26 v27 v28 v29 v30 v31 v32 v33 v34 v35 v36 v37 v38 v39 v40 v41 v42 v43 v44 v45 v46 v47 v48 v49 v50 v51 v52 v53 v54 v55 v56 v57 v58 v59 v60 v61 v62 v63 v64 v65 v66 v67 v68 v69 v70 v71 v72 v73 v74 v75 v76 v77 v78 v79 v80 v81 v82 v83 v84 v85 v86 v87 v88 v89 v90 v91 v92 v93 v94 v95 v96 v97 v98 v99 v100 v101 v102 v103 v104 v105 v106 v107 v108 v109 v110 v111 v112 v113 v114 : Value} (m : Msg) (ae ax ay az : Option Addr) (ce cx cy cz : Nat) (B bb N : Nat) (w W : World) (xs tot : List UInt8) (post : Ending → World → Prop)
    (hm : isMsg m = true) (hN : N ≤ 1000) (H : Hid (PutSt w W B bb (rowMsg m (.slice ae m.ents.length ce) (.slice ax m.sc.v.length cx) (.slice ay m.sc.n.length cy) (.slice az m.sc.l.length cz)).toArray N xs)) (hxs : xs ++ putTail m = tot) (Hp : Hid (∀ w', Below w.heap.size w w' → post (.returned (.tuple #[str tot, .int .i64 0])) w')) (HC : Hid (∀ w', Below w.heap.size w w' → Config3 w' (.slice ax m.sc.v.length cx) (.slice ay m.sc.n.length cy) (.slice az m.sc.l.length cz) m.sc)) (hk : m.kind = 7) :
    Code.wp Try.prog ((Try.f5.body.bind (seqAt 8)).getD .skip) (bodyPost Try.prog Try.f5 post) ⟨#[v0, .pointer (some ⟨B, 0, none⟩), v2, v3, .pointer (some ⟨bb, 0, none⟩), v5, v6, v7, v8, v9, v10, v11, v12, v13, v14, v15, v16, v17, v18, v19, v20, v21, v22, v23, v24, v25, v26, v27, v28, v29, v30, v31, v32, v33, v34, v35, v36, v37, v38, v39, v40, v41, v42, v43, v44, v45, v46, v47, v48, v49, v50, v51, v52, v53, v54, v55, v56, v57, v58, v59, v60, v61, v62, v63, v64, v65, v66, v67, v68, v69, v70, v71, v72, v73, v74, v75, v76, v77, v78, v79, v80, v81, v82, v83, v84, v85, v86, v87, v88, v89, v90, v91, v92, v93, v94, v95, v96, v97, v98, v99, v100, v101, v102, v103, v104, v105, v106, v107, v108, v109, v110, v111, v112, v113, v114], []⟩ W := by
  conv => arg 2; whnf
  obtain ⟨g1, g2, g3, g4, g5, g6, g7, g8, g9, g10, g11, g12, g13, g14, g15, g16, g17, g18⟩ := isMsg_ranges hm
  have ht : putTail m = putNum m.ctx.toNat ++ putSnap m.si.toNat m.st.toNat m.sc m.sd := by rw [putTail, if_neg (by omega), if_neg (by omega), if_neg (by omega), if_pos hk]
  have hsn := isMsg_snap hm hk
  have t1 : (m.kind == 1) = false := beq_eq_false_iff_ne.2 (by omega)
  have t3 : (m.kind == 3) = false := beq_eq_false_iff_ne.2 (by omega)
  have t2 : (m.kind == 2) = false := beq_eq_false_iff_ne.2 (by omega)
  have t4 : (m.kind == 4) = false := beq_eq_false_iff_ne.2 (by omega)
  have t5 : (m.kind == 5) = false := beq_eq_false_iff_ne.2 (by omega)
  have t6 : (m.kind == 6) = false := beq_eq_false_iff_ne.2 (by omega)
  have t7 : (m.kind == 7) = true := by rw [hk]; rfl
  have a0 := cell_n H.out.blk 0 (v := .int .i64 m.kind) rfl
  clear hk
  have c16 := cell_n H.out.blk 16 (v := .int .i64 m.ctx) rfl
  have KS0 := Lib.hid (put_num H.out m.ctx (by omega) (by omega) (by omega))
  go_wp2_with fail
  refine KS0.out.mono ?_
  rintro e wS0 ⟨rfl, hs⟩
  have S0 := Lib.hid hs
  clear hs c16 KS0
  clear a0
  have K1 := Lib.hid (put_snap S0.out m.si m.st (.slice ax m.sc.v.length cx) (.slice ay m.sc.n.length cy) (.slice az m.sc.l.length cz) m.sc m.sd hsn HC.out (by omega))
  have c8 := cell_n S0.out.blk 8 (v := .int .i64 m.si) rfl
  have c9 := cell_n S0.out.blk 9 (v := .int .i64 m.st) rfl
  have c10 := cell_n S0.out.blk 10 (v := .slice ax m.sc.v.length cx) rfl
  have c11 := cell_n S0.out.blk 11 (v := .slice ay m.sc.n.length cy) rfl
  have c12 := cell_n S0.out.blk 12 (v := .slice az m.sc.l.length cz) rfl
  have c13 := cell_n S0.out.blk 13 (v := str m.sd) rfl
  go_wp2_with fail
  refine K1.out.mono ?_
  rintro e wS1 ⟨rfl, hs⟩
  have S1 := Lib.hid hs
  clear hs c8 c9 c10 c11 c12 c13 K1
  have Hpf := Lib.hid (Hp.out _ S1.out.bel)
  obtain ⟨vv, hv, ho⟩ := S1.out.wr
  have d0 := cell_of_one hv
  have kc := writer_str ho
  clear hv ho
  rw [show ((xs ++ putNum m.ctx.toNat) ++ putSnap m.si.toNat m.st.toNat m.sc m.sd) = tot from by rw [← hxs, ht] <;> simp only [List.append_assoc]] at kc
  go_wp2_with fail
  exact Hpf.out

set_option maxHeartbeats 4000000 in
set_option maxRecDepth 100000 in
theorem wire_putMessage (m : Msg) (ev x y z : Value) (F : Nat → Prop) (w : World) (hE : Ents F w ev m.ents) (hc : Config3 w x y z m.sc) :
    Calls Try.prog 5 #[vMsg m ev x y z] w fun e w' => e = .returned (.tuple #[str (putMsgB m), .int .i64 (putMsgE m)]) ∧ Below w.heap.size w w' := by
  obtain ⟨post, HP⟩ := hide (fun (e : Ending) (w' : World) => e = .returned (.tuple #[str (putMsgB m), .int .i64 (putMsgE m)]) ∧ Below w.heap.size w w')
  rw [HP.out]
  have HE : Hid (∀ w', Below w.heap.size w w' → Ents F w' ev m.ents) := fun w' hb => hE.frame (Plain.good _) (Agree.below hb)
  have HC : Hid (∀ w', Below w.heap.size w w' → Config3 w' x y z m.sc) := fun w' hb => hc.mono hb
  obtain ⟨ae, ce, rfl, _, _⟩ := hE.slice
  obtain ⟨ax, cx, rfl, _⟩ := len_of_Ints hc.v
  obtain ⟨ay, cy, rfl, _⟩ := len_of_Ints hc.n
  obtain ⟨az, cz, rfl, _⟩ := len_of_Ints hc.l
  obtain ⟨W1, hW1⟩ := hide (w.alloc (.cells (rowMsg m (.slice ae m.ents.length ce) (.slice ax m.sc.v.length cx) (.slice ay m.sc.n.length cy) (.slice az m.sc.l.length cz)).toArray 29))
  have HbW1 : Hid (Below w.heap.size w W1) := by show Below _ _ _; rw [← hW1.out]; exact (Below.refl _ _).alloc (Nat.le_refl _) _
  have HB1 : Hid (W1.heap[w.heap.size]? = some (.cells (rowMsg m (.slice ae m.ents.length ce) (.slice ax m.sc.v.length cx) (.slice ay m.sc.n.length cy) (.slice az m.sc.l.length cz)).toArray 29 (0, 0))) := by show _ = _; rw [← hW1.out]; exact hp_at _ _ rfl
  have KI := Lib.hid (wire_isMessage m _ _ _ _ F W1 (HE.out _ HbW1.out) (HC.out _ HbW1.out))
  obtain ⟨B, hB⟩ := hide w.heap.size
  rw [hB.out] at HB1
  clear hE hc
  go_enter Try.func5, Try.ntmps5
  go_upto_region 1 with fail
  rw [hW1.out]
  try rw [hB.out]
  refine wp_region_lit ?_
  refine wpList_load_row rfl 29 (.tmp 1) rfl B rfl 29 (rowMsg m (.slice ae m.ents.length ce) (.slice ax m.sc.v.length cx) (.slice ay m.sc.n.length cy) (.slice az m.sc.l.length cz)).toArray (0, 0) _ HB1.out Try.underlying29 rfl size_msg ?_
  go_wp2_with fail
  refine KI.out.mono ?_
  rintro e w2 ⟨rfl, hb2⟩
  have HbW2 : Hid (Below w.heap.size w w2) := HbW1.out.trans (hb2.mono HbW1.out.size)
  have HB2 : Hid (w2.heap[B]? = some (.cells (rowMsg m (.slice ae m.ents.length ce) (.slice ax m.sc.v.length cx) (.slice ay m.sc.n.length cy) (.slice az m.sc.l.length cz)).toArray 29 (0, 0))) := (hb2.block B (lt_of_block HB1.out)).trans HB1.out
  clear hb2
  cases hok : isMsg m with
  | false =>
    have Hq : Hid (post (.returned (.tuple #[str [], .int .i64 7])) w2) := by
      show post _ _
      rw [← HP.out, putMsgB, putMsgE, hok]
      exact ⟨rfl, HbW2.out⟩
    clear hok
    go_wp2_with fail
    exact Hq.out
  | true =>
    obtain ⟨W3, hW3⟩ := hide (w2.alloc (.cells #[.slice none 0 0] 45))
    obtain ⟨bb, hbb⟩ := hide w2.heap.size
    have S0 : Hid (PutSt w W3 B bb (rowMsg m (.slice ae m.ents.length ce) (.slice ax m.sc.v.length cx) (.slice ay m.sc.n.length cy) (.slice az m.sc.l.length cz)).toArray 0 []) := by
      show PutSt _ _ _ _ _ _ _
      have hlt := lt_of_block HB2.out
      rw [← hW3.out, ← hbb.out]
      exact ⟨HbW2.out.alloc HbW2.out.size _, (hp_past _ _ (by omega)).trans HB2.out, ⟨_, hp_at _ _ rfl, World.ownsRow_nil _ _ _ _⟩, HbW2.out.size, by omega, Nat.le_refl _⟩
    obtain ⟨g1, g2, g3, g4, g5, g6, g7, g8, _⟩ := isMsg_ranges hok
    have Hok := Lib.hid hok
    have Hp : Hid (∀ w', Below w.heap.size w w' → post (.returned (.tuple #[str (putMsg m), .int .i64 0])) w') := by
      show ∀ w', _ → _
      intro w' hw
      rw [← HP.out, putMsgB, putMsgE, if_pos hok, if_pos hok]
      exact ⟨rfl, hw⟩
    clear hok
    go_upto_region 4 with fail
    rw [hW3.out]
    try rw [hbb.out]
    have c0 := cell_n S0.out.blk 0 (v := .int .i64 m.kind) rfl
    have KS0x := Lib.hid (put_num S0.out m.kind (by omega) (by omega) (by omega))
    go_wp2_with fail
    refine KS0x.out.mono ?_
    rintro e wS0x ⟨rfl, hs⟩
    have S0x := Lib.hid hs
    clear hs c0 KS0x
    have c1 := cell_n S0x.out.blk 1 (v := .int .i64 m.frm) rfl
    have KS1 := Lib.hid (put_num S0x.out m.frm (by omega) (by omega) (by omega))
    go_wp2_with fail
    refine KS1.out.mono ?_
    rintro e wS1 ⟨rfl, hs⟩
    have S1 := Lib.hid hs
    clear hs c1 KS1
    have c2 := cell_n S1.out.blk 2 (v := .int .i64 m.dst) rfl
    have KS2 := Lib.hid (put_num S1.out m.dst (by omega) (by omega) (by omega))
    go_wp2_with fail
    refine KS2.out.mono ?_
    rintro e wS2 ⟨rfl, hs⟩
    have S2 := Lib.hid hs
    clear hs c2 KS2
    have c3 := cell_n S2.out.blk 3 (v := .int .i64 m.term) rfl
    have KS3 := Lib.hid (put_num S2.out m.term (by omega) (by omega) (by omega))
    go_wp2_with fail
    refine KS3.out.mono ?_
    rintro e wS3 ⟨rfl, hs⟩
    have S3 := Lib.hid hs
    clear hs c3 KS3
    obtain ⟨tot, htot⟩ := hide (putMsg m)
    rw [htot.out] at Hp
    have hxs : (((([] ++ putNum m.kind.toNat) ++ putNum m.frm.toNat) ++ putNum m.dst.toNat) ++ putNum m.term.toNat) ++ putTail m = tot := by
      rw [← htot.out, putMsg]
      simp only [List.append_assoc, List.nil_append]
    dsimp only
    by_cases k1 : m.kind = 1 ∨ m.kind = 3
    · iterate 20 (first | done | exact putM_ask m ae ax ay az ce cx cy cz B bb _ w wS3 _ tot post Hok.out (by omega) S3 hxs Hp k1 | go_step)
    by_cases k2 : m.kind = 2 ∨ m.kind = 4
    · iterate 20 (first | done | exact putM_rep m ae ax ay az ce cx cy cz B bb _ w wS3 _ tot post Hok.out (by omega) S3 hxs Hp k2 | go_step)
    by_cases k5 : m.kind = 5
    · iterate 20 (first | done | exact putM_app m ae ax ay az ce cx cy cz B bb _ w wS3 _ tot post Hok.out (by omega) S3 hxs Hp F HE k5 | go_step)
    by_cases k6 : m.kind = 6
    · iterate 20 (first | done | exact putM_back m ae ax ay az ce cx cy cz B bb _ w wS3 _ tot post Hok.out (by omega) S3 hxs Hp k6 | go_step)
    · iterate 20 (first | done | exact putM_inst m ae ax ay az ce cx cy cz B bb _ w wS3 _ tot post Hok.out (by omega) S3 hxs Hp HC (by omega) | go_step)
end Go.Proofs.Ytkcllpbbjlbfaaa
