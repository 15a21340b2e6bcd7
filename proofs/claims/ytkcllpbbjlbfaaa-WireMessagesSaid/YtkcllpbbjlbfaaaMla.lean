/-
  The document's reader of messages: a flag; what is still to be read (plain). The document: a message read: its end. The document: a message read: the kinds. The document: a message read: with a snapshot, with entries; the whole. The document: a message read: the whole. WireMessages: the law.
-/
import Derived.Test.YtkcllpbbjlbfaaaRy
import Derived.Test.YtkcllpbbjlbfaaaSs
import Derived.Test.YtkcllpbbjlbfaaaMsr
import Derived.Test.YtkcllpbbjlbfaaaEf
import Derived.Test.YtkcllpbbjlbfaaaMpa
import Derived.Test.YtkcllpbbjlbfaaaMsm
import Derived.Deep.DeepCutAuto
namespace Go.Proofs.Ytkcllpbbjlbfaaa
open Go.RowKit Wm Mm Lg
set_option linter.unusedVariables false
set_option linter.unusedSimpArgs false

theorem rdFlag_no {s : List UInt8} {z : Int} (h : rdFlag s = .error z) : z ≠ 0 := by
  unfold rdFlag at h
  match s, h with
  | [], h => cases h; decide
  | c :: t, h =>
    dsimp only at h
    split at h
    · cases h; decide
    · cases h
theorem entS_same (s : List UInt8) : (∀ c t, rdEnt s = .ok (c, t) → entS (.ok s) = (c, .ok t)) ∧ (∀ z, rdEnt s = .error z → (entS (.ok s)).2 = .error z ∧ z ≠ 0) := by
  unfold entS rdEnt
  match h1 : rdNum s with
  | .error z =>
    simp only [stepS, stepV, h1, rvalOf, rstOf, badS, ite_self]
    exact ⟨fun _ _ h => (by cases h), fun y h => (by cases h; exact ⟨rfl, rdNum_err h1⟩)⟩
  | .ok (i, s1) =>
    simp only [stepS, stepV, h1, rvalOf, rstOf]
    match h2 : rdNum s1 with
    | .error z =>
      simp only [badS, ite_self]
      exact ⟨fun _ _ h => (by cases h), fun y h => (by cases h; exact ⟨rfl, rdNum_err h2⟩)⟩
    | .ok (t, s2) =>
      simp only []
      match h3 : rdNum s2 with
      | .error z =>
        simp only [badS, ite_self]
        exact ⟨fun _ _ h => (by cases h), fun y h => (by cases h; exact ⟨rfl, rdNum_err h3⟩)⟩
      | .ok (k, s3) =>
        simp only []
        match h4 : rdText 256 s3 with
        | .error z =>
          simp only [badS, ite_self]
          exact ⟨fun _ _ h => (by cases h), fun y h => (by cases h; exact ⟨rfl, rdText_err h4⟩)⟩
        | .ok (d, s4) =>
          simp only []
          by_cases hi : isEntry i t k d = true
          · rw [if_pos hi, if_pos hi]
            exact ⟨fun _ _ h => (by cases h; rfl), fun y h => (by cases h)⟩
          · rw [if_neg hi, if_neg hi, badS]
            exact ⟨fun _ _ h => (by cases h), fun y h => (by cases h; exact ⟨rfl, by decide⟩)⟩
/-- a reading by a method of its own -/
theorem Cps.meth {α β : Type} {res : Res β} {p : List UInt8 → Res α} {f : St → α × St} {K : α → List UInt8 → Res β} {σ : St} (he : ∀ z, (f (.error z)).2 = .error z) (hs : ∀ s, (∀ c t, p s = .ok (c, t) → f (.ok s) = (c, .ok t)) ∧ (∀ z, p s = .error z → (f (.ok s)).2 = .error z ∧ z ≠ 0))
    (h : Cps res (fun u => bindR (p u) K) σ) : Cps res (K (f σ).1) (f σ).2 := by
  cases σ with
  | error z => rw [he]; exact h
  | ok u =>
    have h : bindR (p u) K = res := h
    rcases hp : p u with z | ⟨x, t⟩
    · rw [hp] at h
      obtain ⟨e1, e2⟩ := (hs u).2 z hp
      rw [e1]
      exact ⟨h.symm, e2⟩
    · rw [hp] at h
      rw [(hs u).1 x t hp]
      exact h
theorem okMsg_bind {α : Type} (r : Res α) (K : α → List UInt8 → Res Msg) : okMsg (bindR r K) = bindR r (fun x s => okMsg (K x s)) := by
  rcases r with z | ⟨x, s⟩ <;> rfl
abbrev M0 (k f d t : Nat) (i l c : Nat) (es : List EntP) (q : Snap) (b : Bool) (h x : Nat) : Msg := ⟨k, f, d, t, i, l, c, es, q.index, q.term, q.conf, q.data, b, h, x⟩
abbrev noSnap : Snap := ⟨0, 0, noConf, []⟩
theorem rdAsk_b (k f d t : Nat) (s : List UInt8) : rdAsk k f d t s = bindR (rdNum s) fun i u => bindR (rdNum u) fun l u => .ok (M0 k f d t i l 0 [] noSnap false 0 0, u) := by
  unfold rdAsk; rcases rdNum s with z | ⟨i, s1⟩
  · rfl
  · show _ = bindR (rdNum s1) _
    try dsimp only
    rcases rdNum s1 with z | ⟨l, s2⟩ <;> rfl
theorem rdRep_b (k f d t : Nat) (s : List UInt8) : rdRep k f d t s = bindR (rdFlag s) fun b u => .ok (M0 k f d t 0 0 0 [] noSnap b 0 0, u) := by
  unfold rdRep; rcases rdFlag s with z | ⟨i, s1⟩ <;> rfl
theorem rdInst_b (k f d t : Nat) (s : List UInt8) : rdInst k f d t s = bindR (rdNum s) fun x u => bindR (rdSnap u) fun q u => .ok (M0 k f d t 0 0 0 [] q false 0 x, u) := by
  unfold rdInst; rcases rdNum s with z | ⟨i, s1⟩
  · rfl
  · show _ = bindR (rdSnap s1) _
    try dsimp only
    rcases rdSnap s1 with z | ⟨l, s2⟩ <;> rfl
theorem rdBack_b (k f d t : Nat) (s : List UInt8) : rdBack k f d t s = bindR (rdNum s) fun i u => bindR (rdFlag u) fun b u => bindR (rdNum u) fun h u => bindR (rdNum u) fun x u => .ok (M0 k f d t i 0 0 [] noSnap b h x, u) := by
  unfold rdBack; rcases rdNum s with z | ⟨i, s1⟩
  · rfl
  · show _ = bindR (rdFlag s1) _
    try dsimp only
    rcases rdFlag s1 with z | ⟨b, s2⟩
    · rfl
    · show _ = bindR (rdNum s2) _
      try dsimp only
      rcases rdNum s2 with z | ⟨h, s3⟩
      · rfl
      · show _ = bindR (rdNum s3) _
        try dsimp only
        rcases rdNum s3 with z | ⟨x, s4⟩ <;> rfl
theorem rdApp_b (k f d t : Nat) (s : List UInt8) : rdApp k f d t s = bindR (rdNum s) fun i u => bindR (rdNum u) fun l u => bindR (rdNum u) fun c u => bindR (rdNum u) fun x u => bindR (rdUpTo 8 u) fun n u => bindR (rdEnts n [] u) fun es u => .ok (M0 k f d t i l c es noSnap false 0 x, u) := by
  unfold rdApp; rcases rdNum s with z | ⟨i, s1⟩
  · rfl
  · show _ = bindR (rdNum s1) _
    try dsimp only
    rcases rdNum s1 with z | ⟨b, s2⟩
    · rfl
    · show _ = bindR (rdNum s2) _
      try dsimp only
      rcases rdNum s2 with z | ⟨h, s3⟩
      · rfl
      · show _ = bindR (rdNum s3) _
        try dsimp only
        rcases rdNum s3 with z | ⟨x, s4⟩
        · rfl
        · show _ = bindR (rdUpTo 8 s4) _
          try dsimp only
          unfold rdAppE
          rcases rdUpTo 8 s4 with z | ⟨n, s5⟩
          · rfl
          · show _ = bindR (rdEnts n [] s5) _
            try dsimp only
            rcases rdEnts n [] s5 with z | ⟨es, s6⟩ <;> rfl
theorem rdMsg_b (s : List UInt8) : rdMsg s = bindR (rdNum s) fun k u => bindR (rdNum u) fun f u => bindR (rdNum u) fun d u => bindR (rdNum u) fun t u => okMsg (rdTail k f d t u) := by
  unfold rdMsg; rcases rdNum s with z | ⟨i, s1⟩
  · rfl
  · show _ = bindR (rdNum s1) _
    try dsimp only
    rcases rdNum s1 with z | ⟨b, s2⟩
    · rfl
    · show _ = bindR (rdNum s2) _
      try dsimp only
      rcases rdNum s2 with z | ⟨h, s3⟩
      · rfl
      · show _ = bindR (rdNum s3) _
        try dsimp only
        rcases rdNum s3 with z | ⟨x, s4⟩ <;> rfl
theorem rdEnts_b (n : Nat) (acc : List EntP) (u : List UInt8) : rdEnts (n + 1) acc u = bindR (rdEnt u) fun e t => rdEnts n (acc ++ [entOf e]) t := by
  show (match rdEnt u with | .error z => _ | .ok (e, t) => _) = _
  rcases rdEnt u with z | ⟨e, t⟩ <;> rfl
/-- what the last test makes of it -/
theorem Cps.last {res : Res Msg} {m : Msg} {σ : St} (h : Cps res (fun u => okMsg (.ok (m, u))) σ) : Cps res (fun u => .ok (m, u)) (if isMsg m = true then σ else badS 7 σ) := by
  by_cases hm : isMsg m = true
  · rw [if_pos hm]
    exact h.of (fun u => by show (if isMsg m = true then _ else _) = _; rw [if_pos hm])
  · rw [if_neg hm]
    exact Cps.bad (by decide) (h.of (K' := fun _ => .error 7) (fun u => by show (if isMsg m = true then _ else _) = _; rw [if_neg hm]))
abbrev vFlagR (b : Bool) : Value := .bool b
set_option maxHeartbeats 2000000 in
theorem flag_rs {b : Nat} {σ : St} {w : World} (h : Rs w b σ) :
    Calls Try.prog 30 #[.pointer (some ⟨b, 0, none⟩)] w
      (Steps b w vFlagR (stepV false rdFlag σ) (stepS rdFlag σ)) := by
  have HN := take_rs 1 h
  have hR : ∀ w', Rs w' b (stepS (rdTake 1) σ) → ∃ z s, w'.heap[b]? = some (.cells #[str s, .int .i64 z] 65 (0, 0)) := by
    intro w' hw
    cases hs : stepS (rdTake 1) σ with
    | ok s => rw [hs] at hw; exact ⟨0, s, hw.1⟩
    | error z => rw [hs] at hw; exact ⟨z, [], hw.1⟩
  obtain ⟨post, HP⟩ := hide (Steps b w vFlagR (stepV false rdFlag σ) (stepS rdFlag σ))
  rw [HP.out]
  cases σ with
  | error y =>
    have hy := h.2
    have HN := Lib.hid HN
    have Hp : Hid (∀ w', Rs w' b (.error y) → w.grownBy w' (some b) → post (.returned (.bool false)) w') := by
      show ∀ w', _ → _ → _
      intro w' h1 h2; rw [← HP.out]; exact ⟨rfl, h1, h2⟩
    have z1 : (y == 0) = false := beq_eq_false_iff_ne.2 hy
    clear h hy hR HP
    go_enter Try.func30, Try.ntmps30
    go_wp2_with fail
    refine HN.out.mono ?_
    rintro e w' ⟨rfl, hr, hg⟩
    have hr : Rs w' b (.error y) := hr
    have h1 := hr.1
    have c1 := two_cell1 h1
    have Hq := Lib.hid (Hp.out w' hr hg)
    clear h1 hr hg HN
    go_wp2_with fail
    first | exact Hq.out | (go_ret; exact Hq.out)
  | ok s =>
    match s, h, HN with
    | [], h, HN =>
      have HN := Lib.hid HN
      have Hp : Hid (∀ w', Rs w' b (.error 3) → w.grownBy w' (some b) → post (.returned (.bool false)) w') := by
        show ∀ w', _ → _ → _
        intro w' h1 h2; rw [← HP.out]; exact ⟨rfl, h1, h2⟩
      clear h hR HP
      go_enter Try.func30, Try.ntmps30
      go_wp2_with fail
      refine HN.out.mono ?_
      rintro e w' ⟨rfl, hr, hg⟩
      have hr : Rs w' b (.error 3) := hr
      have h1 := hr.1
      have c1 := two_cell1 h1
      have Hq := Lib.hid (Hp.out w' hr hg)
      clear h1 hr hg HN
      go_wp2_with fail
      first | exact Hq.out | (go_ret; exact Hq.out)
    | c :: t, h, HN =>
      have e1 : stepV [] (rdTake 1) (.ok (c :: t)) = [c] := by simp [stepV, rdTake, rvalOf]
      have e2 : stepS (rdTake 1) (.ok (c :: t)) = .ok t := by simp [stepS, rdTake, rstOf]
      rw [e1, e2] at HN
      have HN := Lib.hid HN
      by_cases hc : 1 < c.toNat
      · have t1 : decide (1 < c.toNat) = true := decide_eq_true hc
        have t2 : decide ((1 : Int) < (c.toNat : Int)) = true := decide_eq_true (by omega)
        have Hp : Hid (∀ w', Rs w' b (.error 1) → w.grownBy w' (some b) → post (.returned (.bool false)) w') := by
          show ∀ w', _ → _ → _
          intro w' h1 h2
          rw [← HP.out]
          have e3 : rdFlag (c :: t) = .error 1 := if_pos hc
          exact ⟨by simp only [stepV, e3, rvalOf], by simp only [stepS, e3, rstOf]; exact h1, h2⟩
        clear h hR HP hc e1 e2
        go_enter Try.func30, Try.ntmps30
        go_wp2_with fail
        refine HN.out.mono ?_
        rintro e w' ⟨rfl, hr, hg⟩
        have c1 := two_cell1 hr.1
        have HB := Lib.hid (bad_rs (z := 1) (by decide) hr)
        have Hg := Lib.hid hg
        clear hr hg HN
        go_wp2_with fail
        refine HB.out.mono ?_
        rintro e w2 ⟨rfl, hr, hg⟩
        have hr : Rs w2 b (.error 1) := hr
        clear c1
        have c1 := two_cell1 hr.1
        have Hq := Lib.hid (Hp.out w2 hr (grown_trans Hg.out hg))
        clear hr hg
        go_wp2_with fail
        first | exact Hq.out | (go_ret; exact Hq.out)
      · have t1 : decide (1 < c.toNat) = false := decide_eq_false hc
        have t2 : decide ((1 : Int) < (c.toNat : Int)) = false := decide_eq_false (by omega)
        obtain ⟨z, hz⟩ := hide (decide (c.toNat = 1))
        have t3 : ((c.toNat : Int) == 1) = z := by rw [← hz.out]; by_cases h1 : c.toNat = 1 <;> simp [h1] <;> omega
        have Hp : Hid (∀ w', Rs w' b (.ok t) → w.grownBy w' (some b) → post (.returned (.bool z)) w') := by
          show ∀ w', _ → _ → _
          intro w' h1 h2
          rw [← HP.out]
          have e3 : rdFlag (c :: t) = .ok (z, t) := by rw [← hz.out]; exact if_neg hc
          exact ⟨by simp only [stepV, e3, rvalOf], by simp only [stepS, e3, rstOf]; exact h1, h2⟩
        clear h hR HP hc e1 e2 hz
        go_enter Try.func30, Try.ntmps30
        go_wp2_with fail
        refine HN.out.mono ?_
        rintro e w' ⟨rfl, hr, hg⟩
        have c1 := two_cell1 hr.1
        have Hq := Lib.hid (Hp.out w' hr hg)
        clear hr hg HN
        cases z
        all_goals
          go_wp2_with fail
          first | exact Hq.out | (go_ret; exact Hq.out)
end Go.Proofs.Ytkcllpbbjlbfaaa

namespace Go.Proofs.Ytkcllpbbjlbfaaa
open Go.RowKit Wm Mm Lg
set_option linter.unusedVariables false
set_option linter.unusedSimpArgs false

set_option maxHeartbeats 1000000 in
theorem ref_endR {b : Nat} {σ : St} {w : World} (h : Rs w b σ) :
    Calls Try.prog 35 #[.pointer (some ⟨b, 0, none⟩)] w fun e w' => e = .returned (.int .i64 (endS σ)) ∧ True ∧ w.grownBy w' (some b) := by
  refine (end_rs h).mono ?_
  intro e w' hh
  exact ⟨hh.1, trivial, hh.2⟩
set_option maxHeartbeats 4000000 in
set_option maxRecDepth 100000 in
theorem msgG_close {v0 v1 v3 v6 v7 v8 v9 v10 v11 v12 v13 v14 v15 v16 v17 v18 v19 v20 v21 v22 v23 v24 v25 v26 v27 v28 v29 v30 v31 v32 v33 v34 v35 v36 v37 v38 v39 v40 v41 v42 v43 v44 v45 v46 v47 v48 v49 v50 v51 v52 v53 v54 v55 v56 v57 v58 v59 v60 v61 v62 v63 v64 v65 v66 v67 v68 v69 v70 v71 v72 v73 v74 v75 v76 v77 v78 v79 v80 v81 v82 v83 v84 v85 v86 v87 v88 v89 v90 v91 v92 v93 v94 v95 v96 v97 v98 v99 v100 v101 v102 v103 v104 v105 v106 v107 v108 v109 v110 v111 v112 v113 : Value} (w wb : World) (B R P : Nat) (hBP : B < P) (hBw : w.heap.size ≤ B) (hBr : B < wb.heap.size) (HW : Hid (∀ W, wb.grownBy W (some R) → Below w.heap.size w W)) (HBk : Hid (∀ W, wb.grownBy W (some R) → W.heap[B]? = some (.cells zeroMsg.toArray 29 (0, 0)))) (res : Res Msg)
    (post : Ending → World → Prop) (Hp : Hid (∀ e w', GotMsg w (full res) e w' → post e w'))
    (σ2 : St) (m : Msg) (ev x y z : Value) (W : World) (H2 : Hid (It wb W R P 29 (rowMsg m ev x y z) σ2)) (HF2 : Hid (MsgF wb.heap.size W ev x y z m)) (HC2 : Hid (Cps res (fun u => .ok (m, u)) σ2)) :
    Code.wp Try.prog ((Try.f8.body.bind (seqAt 37)).getD .skip) (bodyPost Try.prog Try.f8 post) ⟨#[v0, v1, .pointer (some ⟨B, 0, none⟩), v3, .pointer (some ⟨R, 0, none⟩), .pointer (some ⟨P, 0, none⟩), v6, v7, v8, v9, v10, v11, v12, v13, v14, v15, v16, v17, v18, v19, v20, v21, v22, v23, v24, v25, v26, v27, v28, v29, v30, v31, v32, v33, v34, v35, v36, v37, v38, v39, v40, v41, v42, v43, v44, v45, v46, v47, v48, v49, v50, v51, v52, v53, v54, v55, v56, v57, v58, v59, v60, v61, v62, v63, v64, v65, v66, v67, v68, v69, v70, v71, v72, v73, v74, v75, v76, v77, v78, v79, v80, v81, v82, v83, v84, v85, v86, v87, v88, v89, v90, v91, v92, v93, v94, v95, v96, v97, v98, v99, v100, v101, v102, v103, v104, v105, v106, v107, v108, v109, v110, v111, v112, v113], []⟩ W := by
  conv => arg 2; whnf
  obtain ⟨ae, ce, rfl, _, _⟩ := HF2.out.e.slice
  obtain ⟨ax, cx, rfl⟩ := HF2.out.c.v.len
  obtain ⟨ay, cy, rfl⟩ := HF2.out.c.n.len
  obtain ⟨az, cz, rfl⟩ := HF2.out.c.l.len
  obtain ⟨hf0, hf1⟩ := HC2.out.fin
  have K := Lib.hid (ref_endR H2.out.rs)
  obtain ⟨z9, hz9⟩ := hide (endS σ2)
  rw [hz9.out] at K hf0 hf1
  go_wp2_with fail
  refine K.out.mono ?_
  rintro e w4 ⟨rfl, hr, hg⟩
  have G4 := Lib.hid (grown_trans H2.out.g hg)
  have hloc := (hg.block P (lt_of_block H2.out.loc) (by have := H2.out.hP; have := H2.out.hR; simp; omega)).trans H2.out.loc
  have Hloc := Lib.hid hloc
  have HF4 := Lib.hid (HF2.out.up (Up.ofGrown hg H2.out.hR) (Nat.le_refl _))
  clear hr hg K hloc
  dsimp only
  have hb1 := HBk.out _ G4.out
  have hB4 := HW.out _ G4.out
  by_cases h0 : z9 = 0
  case neg =>
    have hres := hf1 h0
    have t1 : (z9 == 0) = false := beq_eq_false_iff_ne.2 h0
    have t2 : (z9 != 0) = true := by simp [bne, t1]
    have h2 := setAll_at hb1 zeroMsg rfl
    have hb2 := setAll_below hB4 hBw zeroMsg
    have hth : w4.there B 0 17 := there_of hb1
    have Hth := Lib.hid hth
    have H9 := Lib.hid h2
    have Hb9 := Lib.hid hb2
    have Hres := Lib.hid hres
    clear hf0 hf1 h0 hres h2 hb2 hb1 hB4 hth
    go_upto_region 39 with fail
    refine wp_region_lit ?_
    iterate 6 go_step
    refine wpList_store_mid rfl 29 (.tmp 2) (.tmp 111) rfl B 0 zeroMsg.toArray rfl rfl Hth.out size_msg (by simp [Value.oneCell']) ?_
    rw [setCells_eq]
    show wpList _ _ _ _ _ (setAll w4 B zeroMsg)
    generalize setAll w4 B zeroMsg = W9 at H9 Hb9 ⊢
    go_wp2_with fail
    refine bodyPost_ret (results_var_row rfl _ W9 B 29 zeroMsg.toArray (0, 0) _ rfl H9.out Try.underlying29 rfl size_msg) rfl ?_
    refine Hp.out _ _ ?_
    rw [Hres.out]
    exact ⟨rfl, Hb9.out⟩
  case pos =>
    have hres := hf0 h0
    subst h0
    have h2 := setAll_at hb1 (rowMsg m (.slice ae m.ents.length ce) (.slice ax m.sc.v.length cx) (.slice ay m.sc.n.length cy) (.slice az m.sc.l.length cz)) rfl
    have hb2 := setAll_below hB4 hBw (rowMsg m (.slice ae m.ents.length ce) (.slice ax m.sc.v.length cx) (.slice ay m.sc.n.length cy) (.slice az m.sc.l.length cz))
    have hth : w4.there B 0 17 := there_of hb1
    have hup : MsgF wb.heap.size (setAll w4 B (rowMsg m (.slice ae m.ents.length ce) (.slice ax m.sc.v.length cx) (.slice ay m.sc.n.length cy) (.slice az m.sc.l.length cz))) (.slice ae m.ents.length ce) (.slice ax m.sc.v.length cx) (.slice ay m.sc.n.length cy) (.slice az m.sc.l.length cz) m := HF4.out.up (Up.setAll wb.heap.size w4 hBr _) (Nat.le_refl _)
    have Hup := Lib.hid (hup.base (S' := w.heap.size) (by omega))
    have Hth := Lib.hid hth
    have H9 := Lib.hid h2
    have Hb9 := Lib.hid hb2
    have Hres := Lib.hid hres
    clear hf0 hf1 hres h2 hb2 hb1 hB4 hth hup
    go_upto_region 40 with fail
    refine wp_region_lit ?_
    refine wpList_load_row rfl 29 (.tmp 5) rfl P rfl 29 (rowMsg m (.slice ae m.ents.length ce) (.slice ax m.sc.v.length cx) (.slice ay m.sc.n.length cy) (.slice az m.sc.l.length cz)).toArray (0, 0) _ Hloc.out Try.underlying29 rfl size_msg ?_
    refine wpList_store_mid rfl 29 (.tmp 2) (.tmp 113) rfl B 0 (rowMsg m (.slice ae m.ents.length ce) (.slice ax m.sc.v.length cx) (.slice ay m.sc.n.length cy) (.slice az m.sc.l.length cz)).toArray rfl rfl Hth.out size_msg (by simp [Value.oneCell']) ?_
    rw [setCells_eq]
    show wpList _ _ _ _ _ (setAll w4 B (rowMsg m (.slice ae m.ents.length ce) (.slice ax m.sc.v.length cx) (.slice ay m.sc.n.length cy) (.slice az m.sc.l.length cz)))
    generalize setAll w4 B (rowMsg m (.slice ae m.ents.length ce) (.slice ax m.sc.v.length cx) (.slice ay m.sc.n.length cy) (.slice az m.sc.l.length cz)) = W9 at H9 Hb9 Hup ⊢
    go_wp2_with fail
    refine bodyPost_ret (results_var_row rfl _ W9 B 29 (rowMsg m (.slice ae m.ents.length ce) (.slice ax m.sc.v.length cx) (.slice ay m.sc.n.length cy) (.slice az m.sc.l.length cz)).toArray (0, 0) _ rfl H9.out Try.underlying29 rfl size_msg) rfl ?_
    refine Hp.out _ _ ?_
    rw [Hres.out]
    exact ⟨_, _, _, _, rfl, Hup.out, Hb9.out⟩
set_option maxHeartbeats 4000000 in
set_option maxRecDepth 100000 in
theorem msgG_end {v0 v1 v3 v6 v7 v8 v9 v10 v11 v12 v13 v14 v15 v16 v17 v18 v19 v20 v21 v22 v23 v24 v25 v26 v27 v28 v29 v30 v31 v32 v33 v34 v35 v36 v37 v38 v39 v40 v41 v42 v43 v44 v45 v46 v47 v48 v49 v50 v51 v52 v53 v54 v55 v56 v57 v58 v59 v60 v61 v62 v63 v64 v65 v66 v67 v68 v69 v70 v71 v72 v73 v74 v75 v76 v77 v78 v79 v80 v81 v82 v83 v84 v85 v86 v87 v88 v89 v90 v91 v92 v93 v94 v95 v96 v97 v98 v99 v100 v101 v102 v103 v104 v105 v106 v107 v108 v109 v110 v111 v112 v113 : Value} (w wb : World) (B R P : Nat) (hBP : B < P) (hBw : w.heap.size ≤ B) (hBr : B < wb.heap.size) (HW : Hid (∀ W, wb.grownBy W (some R) → Below w.heap.size w W)) (HBk : Hid (∀ W, wb.grownBy W (some R) → W.heap[B]? = some (.cells zeroMsg.toArray 29 (0, 0)))) (res : Res Msg)
    (post : Ending → World → Prop) (Hp : Hid (∀ e w', GotMsg w (full res) e w' → post e w'))
    (σ : St) (m : Msg) (ev x y z : Value) (W : World) (H : Hid (It wb W R P 29 (rowMsg m ev x y z) σ)) (HF : Hid (MsgF wb.heap.size W ev x y z m)) (HC : Hid (Cps res (fun u => okMsg (.ok (m, u))) σ)) :
    Code.wp Try.prog ((Try.f8.body.bind (seqAt 34)).getD .skip) (bodyPost Try.prog Try.f8 post) ⟨#[v0, v1, .pointer (some ⟨B, 0, none⟩), v3, .pointer (some ⟨R, 0, none⟩), .pointer (some ⟨P, 0, none⟩), v6, v7, v8, v9, v10, v11, v12, v13, v14, v15, v16, v17, v18, v19, v20, v21, v22, v23, v24, v25, v26, v27, v28, v29, v30, v31, v32, v33, v34, v35, v36, v37, v38, v39, v40, v41, v42, v43, v44, v45, v46, v47, v48, v49, v50, v51, v52, v53, v54, v55, v56, v57, v58, v59, v60, v61, v62, v63, v64, v65, v66, v67, v68, v69, v70, v71, v72, v73, v74, v75, v76, v77, v78, v79, v80, v81, v82, v83, v84, v85, v86, v87, v88, v89, v90, v91, v92, v93, v94, v95, v96, v97, v98, v99, v100, v101, v102, v103, v104, v105, v106, v107, v108, v109, v110, v111, v112, v113], []⟩ W := by
  conv => arg 2; whnf
  obtain ⟨ae, ce, rfl, _, _⟩ := HF.out.e.slice
  obtain ⟨ax, cx, rfl⟩ := HF.out.c.v.len
  obtain ⟨ay, cy, rfl⟩ := HF.out.c.n.len
  obtain ⟨az, cz, rfl⟩ := HF.out.c.l.len
  have hL := Lib.hid HC.out.last
  have K := ref_isMessage m _ _ _ _ _ W HF.out.e ⟨HF.out.c.v.ints, HF.out.c.n.ints, HF.out.c.l.ints⟩
  cases hm : isMsg m with
  | true =>
    rw [hm] at K
    have K := Lib.hid K
    have HL : Hid (Cps res (fun u => .ok (m, u)) σ) := by
      have := hL.out; rw [hm] at this; exact this
    clear hm hL
    go_upto_region 34 with fail
    refine wp_region_lit ?_
    refine wpList_load_row rfl 29 (.tmp 5) rfl P rfl 29 (rowMsg m (.slice ae m.ents.length ce) (.slice ax m.sc.v.length cx) (.slice ay m.sc.n.length cy) (.slice az m.sc.l.length cz)).toArray (0, 0) _ H.out.loc Try.underlying29 rfl size_msg ?_
    go_wp2_with fail
    refine K.out.mono ?_
    rintro e w2 ⟨rfl, hb2⟩
    have H2 := Lib.hid (H.out.pass hb2)
    have HF2 := Lib.hid (HF.out.up (Up.ofBelow (S := wb.heap.size) hb2) (Nat.le_refl _))
    have HC2 := HL
    clear hb2 K
    dsimp only
    iterate 30 (first | done | exact msgG_close w wb B R P hBP hBw hBr HW HBk res post Hp σ m (.slice ae m.ents.length ce) (.slice ax m.sc.v.length cx) (.slice ay m.sc.n.length cy) (.slice az m.sc.l.length cz) w2 H2 HF2 HC2 | go_step)
  | false =>
    rw [hm] at K
    have K := Lib.hid K
    have HL : Hid (Cps res (fun u => .ok (m, u)) (badS 7 σ)) := by
      have := hL.out; rw [hm] at this; exact this
    clear hm hL
    go_upto_region 34 with fail
    refine wp_region_lit ?_
    refine wpList_load_row rfl 29 (.tmp 5) rfl P rfl 29 (rowMsg m (.slice ae m.ents.length ce) (.slice ax m.sc.v.length cx) (.slice ay m.sc.n.length cy) (.slice az m.sc.l.length cz)).toArray (0, 0) _ H.out.loc Try.underlying29 rfl size_msg ?_
    go_wp2_with fail
    refine K.out.mono ?_
    rintro e w2 ⟨rfl, hb2⟩
    have H2 := Lib.hid (H.out.pass hb2)
    have HF2 := Lib.hid (HF.out.up (Up.ofBelow (S := wb.heap.size) hb2) (Nat.le_refl _))
    clear hb2 K
    dsimp only
    have K := Lib.hid (bad_rs (z := 7) (by decide) H2.out.rs)
    go_wp2_with fail
    refine K.out.mono ?_
    rintro e w3 ⟨rfl, hr, hg⟩
    have H3 := Lib.hid (H2.out.read hr hg)
    have HF3 := Lib.hid (HF2.out.up (Up.ofGrown hg H2.out.hR) (Nat.le_refl _))
    clear hr hg K
    dsimp only
    iterate 30 (first | done | exact msgG_close w wb B R P hBP hBw hBr HW HBk res post Hp (badS 7 σ) m (.slice ae m.ents.length ce) (.slice ax m.sc.v.length cx) (.slice ay m.sc.n.length cy) (.slice az m.sc.l.length cz) w3 H3 HF3 HL | go_step)
end Go.Proofs.Ytkcllpbbjlbfaaa

namespace Go.Proofs.Ytkcllpbbjlbfaaa
open Go.RowKit Wm Mm Lg
set_option linter.unusedVariables false
set_option linter.unusedSimpArgs false

set_option maxHeartbeats 4000000 in
set_option maxRecDepth 100000 in
theorem msgG_ask {v0 v1 v3 v6 v7 v8 v9 v10 v11 v12 v13 v14 v15 v16 v17 v18 v19 v20 v21 v22 v23 v24 v25 v26 v27 v28 v29 v30 v31 v32 v33 v34 v35 v36 v37 v38 v39 v40 v41 v42 v43 v44 v45 v46 v47 v48 v49 v50 v51 v52 v53 v54 v55 v56 v57 v58 v59 v60 v61 v62 v63 v64 v65 v66 v67 v68 v69 v70 v71 v72 v73 v74 v75 v76 v77 v78 v79 v80 v81 v82 v83 v84 v85 v86 v87 v88 v89 v90 v91 v92 v93 v94 v95 v96 v97 v98 v99 v100 v101 v102 v103 v104 v105 v106 v107 v108 v109 v110 v111 v112 v113 : Value} (w wb : World) (B R P : Nat) (hBP : B < P) (hBw : w.heap.size ≤ B) (hBr : B < wb.heap.size) (HW : Hid (∀ W, wb.grownBy W (some R) → Below w.heap.size w W)) (HBk : Hid (∀ W, wb.grownBy W (some R) → W.heap[B]? = some (.cells zeroMsg.toArray 29 (0, 0)))) (res : Res Msg)
    (post : Ending → World → Prop) (Hp : Hid (∀ e w', GotMsg w (full res) e w' → post e w'))
    (σ : St) (k f d t : Nat) (W : World) (H : Hid (It wb W R P 29 (rowMsg (⟨k, f, d, t, 0, 0, 0, [], 0, 0, noConf, [], false, 0, 0⟩ : Msg) (.slice none 0 0) (.slice none 0 0) (.slice none 0 0) (.slice none 0 0)) σ)) (HC : Hid (Cps res (fun u => okMsg (rdTail k f d t u)) σ)) (hk : k = 1 ∨ k = 3) :
    Code.wp Try.prog ((Try.f8.body.bind (seqAt 7)).getD .skip) (bodyPost Try.prog Try.f8 post) ⟨#[v0, v1, .pointer (some ⟨B, 0, none⟩), v3, .pointer (some ⟨R, 0, none⟩), .pointer (some ⟨P, 0, none⟩), v6, v7, v8, v9, v10, v11, v12, v13, v14, v15, v16, v17, v18, v19, v20, v21, v22, v23, v24, v25, v26, v27, v28, v29, v30, v31, v32, v33, v34, v35, v36, v37, v38, v39, v40, v41, v42, v43, v44, v45, v46, v47, v48, v49, v50, v51, v52, v53, v54, v55, v56, v57, v58, v59, v60, v61, v62, v63, v64, v65, v66, v67, v68, v69, v70, v71, v72, v73, v74, v75, v76, v77, v78, v79, v80, v81, v82, v83, v84, v85, v86, v87, v88, v89, v90, v91, v92, v93, v94, v95, v96, v97, v98, v99, v100, v101, v102, v103, v104, v105, v106, v107, v108, v109, v110, v111, v112, v113], []⟩ W := by
  conv => arg 2; whnf
  have HF : Hid (MsgF (P + 1) W (.slice none 0 0) (.slice none 0 0) (.slice none 0 0) (.slice none 0 0) (⟨k, f, d, t, 0, 0, 0, [], 0, 0, noConf, [], false, 0, 0⟩ : Msg)) := ⟨ents_nil _ _, ⟨IntsF.nil _ _, IntsF.nil _ _, IntsF.nil _ _⟩⟩
  have C0 : Hid (Cps res (fun u => bindR (rdNum u) fun (x_index : Nat) u => bindR (rdNum u) fun (x_logTerm : Nat) u => okMsg (.ok ((⟨k, f, d, t, ↑x_index, ↑x_logTerm, 0, [], 0, 0, noConf, [], false, 0, 0⟩ : Msg), u))) σ) := HC.out.of (fun u => by rw [rdTail, if_pos hk]; simp only [rdAsk_b, okMsg_bind]; rfl)
  have a0 := cell_n H.out.loc 0 (v := .int .i64 (k : Int)) rfl
  rcases hk with hk | hk
  · have t1 : ((k : Int) == 1) = true := by rw [hk]; rfl
    have t2 : ((k : Int) == 2) = false := beq_eq_false_iff_ne.2 (by omega)
    have t3 : ((k : Int) == 3) = false := beq_eq_false_iff_ne.2 (by omega)
    have t4 : ((k : Int) == 4) = false := beq_eq_false_iff_ne.2 (by omega)
    have t5 : ((k : Int) == 5) = false := beq_eq_false_iff_ne.2 (by omega)
    have t6 : ((k : Int) == 6) = false := beq_eq_false_iff_ne.2 (by omega)
    have t7 : ((k : Int) == 7) = false := beq_eq_false_iff_ne.2 (by omega)
    clear hk
    have K := Lib.hid (number_rs H.out.rs)
    have c9 := Cps.bind 0 rdNum_err' C0.out
    obtain ⟨v1x, hv1⟩ := hide (stepV 0 rdNum σ)
    obtain ⟨g1, hs1⟩ := hide (stepS rdNum σ)
    rw [hv1.out, hs1.out] at K c9
    have C1 : Hid (Cps res (fun u => bindR (rdNum u) fun (x_logTerm : Nat) u => okMsg (.ok ((⟨k, f, d, t, v1x, ↑x_logTerm, 0, [], 0, 0, noConf, [], false, 0, 0⟩ : Msg), u))) g1) := c9
    clear c9 hv1 hs1
    go_wp2_with fail
    refine K.out.mono ?_
    rintro e w1 ⟨rfl, hr, hg⟩
    have A1 := Lib.hid (H.out.read hr hg)
    have B1 := Lib.hid (HF.out.up (Up.ofGrown hg (Nat.lt_of_lt_of_le H.out.hR (Nat.le_succ_of_le H.out.hP))) (Nat.le_refl _))
    have c0 := cell_n A1.out.loc 4 (v := .int .i64 0) rfl
    have f0 := free_n A1.out.loc 4
    have H1 : Hid (It wb (w1.setCell ⟨P, 4, none⟩ (vNat v1x)) R P 29 (rowMsg (⟨k, f, d, t, v1x, 0, 0, [], 0, 0, noConf, [], false, 0, 0⟩ : Msg) (.slice none 0 0) (.slice none 0 0) (.slice none 0 0) (.slice none 0 0)) g1) := A1.out.put 4 _
    have HF1 : Hid (MsgF (P + 1) (w1.setCell ⟨P, 4, none⟩ (vNat v1x)) (.slice none 0 0) (.slice none 0 0) (.slice none 0 0) (.slice none 0 0) (⟨k, f, d, t, v1x, 0, 0, [], 0, 0, noConf, [], false, 0, 0⟩ : Msg)) := ⟨(B1.out.up (Up.setCell (P + 1) w1 (a := ⟨P, 4, none⟩) (Nat.lt_succ_self P) (vNat v1x)) (Nat.le_refl _)).e, (B1.out.up (Up.setCell (P + 1) w1 (a := ⟨P, 4, none⟩) (Nat.lt_succ_self P) (vNat v1x)) (Nat.le_refl _)).c⟩
    clear hr hg K a0
    dsimp only
    have K := Lib.hid (number_rs H1.out.rs)
    have c9 := Cps.bind 0 rdNum_err' C1.out
    obtain ⟨v2x, hv2⟩ := hide (stepV 0 rdNum g1)
    obtain ⟨g2, hs2⟩ := hide (stepS rdNum g1)
    rw [hv2.out, hs2.out] at K c9
    have C2 : Hid (Cps res (fun u => okMsg (.ok ((⟨k, f, d, t, v1x, v2x, 0, [], 0, 0, noConf, [], false, 0, 0⟩ : Msg), u))) g2) := c9
    clear c9 hv2 hs2
    go_wp2_with fail
    refine K.out.mono ?_
    rintro e w2 ⟨rfl, hr, hg⟩
    have A2 := Lib.hid (H1.out.read hr hg)
    have B2 := Lib.hid (HF1.out.up (Up.ofGrown hg (Nat.lt_of_lt_of_le H1.out.hR (Nat.le_succ_of_le H1.out.hP))) (Nat.le_refl _))
    have c0 := cell_n A2.out.loc 5 (v := .int .i64 0) rfl
    have f0 := free_n A2.out.loc 5
    have H2 : Hid (It wb (w2.setCell ⟨P, 5, none⟩ (vNat v2x)) R P 29 (rowMsg (⟨k, f, d, t, v1x, v2x, 0, [], 0, 0, noConf, [], false, 0, 0⟩ : Msg) (.slice none 0 0) (.slice none 0 0) (.slice none 0 0) (.slice none 0 0)) g2) := A2.out.put 5 _
    have HF2 : Hid (MsgF (P + 1) (w2.setCell ⟨P, 5, none⟩ (vNat v2x)) (.slice none 0 0) (.slice none 0 0) (.slice none 0 0) (.slice none 0 0) (⟨k, f, d, t, v1x, v2x, 0, [], 0, 0, noConf, [], false, 0, 0⟩ : Msg)) := ⟨(B2.out.up (Up.setCell (P + 1) w2 (a := ⟨P, 5, none⟩) (Nat.lt_succ_self P) (vNat v2x)) (Nat.le_refl _)).e, (B2.out.up (Up.setCell (P + 1) w2 (a := ⟨P, 5, none⟩) (Nat.lt_succ_self P) (vNat v2x)) (Nat.le_refl _)).c⟩
    clear hr hg K
    dsimp only
    iterate 120 (first | done | exact msgG_end w wb B R P hBP hBw hBr HW HBk res post Hp g2 (⟨k, f, d, t, v1x, v2x, 0, [], 0, 0, noConf, [], false, 0, 0⟩ : Msg) (.slice none 0 0) (.slice none 0 0) (.slice none 0 0) (.slice none 0 0) (w2.setCell ⟨P, 5, none⟩ (vNat v2x)) H2 (HF2.out.base (S' := wb.heap.size) (Nat.le_succ_of_le H2.out.hP)) C2 | go_step)
  · have t1 : ((k : Int) == 1) = false := beq_eq_false_iff_ne.2 (by omega)
    have t2 : ((k : Int) == 2) = false := beq_eq_false_iff_ne.2 (by omega)
    have t3 : ((k : Int) == 3) = true := by rw [hk]; rfl
    have t4 : ((k : Int) == 4) = false := beq_eq_false_iff_ne.2 (by omega)
    have t5 : ((k : Int) == 5) = false := beq_eq_false_iff_ne.2 (by omega)
    have t6 : ((k : Int) == 6) = false := beq_eq_false_iff_ne.2 (by omega)
    have t7 : ((k : Int) == 7) = false := beq_eq_false_iff_ne.2 (by omega)
    clear hk
    have K := Lib.hid (number_rs H.out.rs)
    have c9 := Cps.bind 0 rdNum_err' C0.out
    obtain ⟨v1x, hv1⟩ := hide (stepV 0 rdNum σ)
    obtain ⟨g1, hs1⟩ := hide (stepS rdNum σ)
    rw [hv1.out, hs1.out] at K c9
    have C1 : Hid (Cps res (fun u => bindR (rdNum u) fun (x_logTerm : Nat) u => okMsg (.ok ((⟨k, f, d, t, v1x, ↑x_logTerm, 0, [], 0, 0, noConf, [], false, 0, 0⟩ : Msg), u))) g1) := c9
    clear c9 hv1 hs1
    go_wp2_with fail
    refine K.out.mono ?_
    rintro e w1 ⟨rfl, hr, hg⟩
    have A1 := Lib.hid (H.out.read hr hg)
    have B1 := Lib.hid (HF.out.up (Up.ofGrown hg (Nat.lt_of_lt_of_le H.out.hR (Nat.le_succ_of_le H.out.hP))) (Nat.le_refl _))
    have c0 := cell_n A1.out.loc 4 (v := .int .i64 0) rfl
    have f0 := free_n A1.out.loc 4
    have H1 : Hid (It wb (w1.setCell ⟨P, 4, none⟩ (vNat v1x)) R P 29 (rowMsg (⟨k, f, d, t, v1x, 0, 0, [], 0, 0, noConf, [], false, 0, 0⟩ : Msg) (.slice none 0 0) (.slice none 0 0) (.slice none 0 0) (.slice none 0 0)) g1) := A1.out.put 4 _
    have HF1 : Hid (MsgF (P + 1) (w1.setCell ⟨P, 4, none⟩ (vNat v1x)) (.slice none 0 0) (.slice none 0 0) (.slice none 0 0) (.slice none 0 0) (⟨k, f, d, t, v1x, 0, 0, [], 0, 0, noConf, [], false, 0, 0⟩ : Msg)) := ⟨(B1.out.up (Up.setCell (P + 1) w1 (a := ⟨P, 4, none⟩) (Nat.lt_succ_self P) (vNat v1x)) (Nat.le_refl _)).e, (B1.out.up (Up.setCell (P + 1) w1 (a := ⟨P, 4, none⟩) (Nat.lt_succ_self P) (vNat v1x)) (Nat.le_refl _)).c⟩
    clear hr hg K a0
    dsimp only
    have K := Lib.hid (number_rs H1.out.rs)
    have c9 := Cps.bind 0 rdNum_err' C1.out
    obtain ⟨v2x, hv2⟩ := hide (stepV 0 rdNum g1)
    obtain ⟨g2, hs2⟩ := hide (stepS rdNum g1)
    rw [hv2.out, hs2.out] at K c9
    have C2 : Hid (Cps res (fun u => okMsg (.ok ((⟨k, f, d, t, v1x, v2x, 0, [], 0, 0, noConf, [], false, 0, 0⟩ : Msg), u))) g2) := c9
    clear c9 hv2 hs2
    go_wp2_with fail
    refine K.out.mono ?_
    rintro e w2 ⟨rfl, hr, hg⟩
    have A2 := Lib.hid (H1.out.read hr hg)
    have B2 := Lib.hid (HF1.out.up (Up.ofGrown hg (Nat.lt_of_lt_of_le H1.out.hR (Nat.le_succ_of_le H1.out.hP))) (Nat.le_refl _))
    have c0 := cell_n A2.out.loc 5 (v := .int .i64 0) rfl
    have f0 := free_n A2.out.loc 5
    have H2 : Hid (It wb (w2.setCell ⟨P, 5, none⟩ (vNat v2x)) R P 29 (rowMsg (⟨k, f, d, t, v1x, v2x, 0, [], 0, 0, noConf, [], false, 0, 0⟩ : Msg) (.slice none 0 0) (.slice none 0 0) (.slice none 0 0) (.slice none 0 0)) g2) := A2.out.put 5 _
    have HF2 : Hid (MsgF (P + 1) (w2.setCell ⟨P, 5, none⟩ (vNat v2x)) (.slice none 0 0) (.slice none 0 0) (.slice none 0 0) (.slice none 0 0) (⟨k, f, d, t, v1x, v2x, 0, [], 0, 0, noConf, [], false, 0, 0⟩ : Msg)) := ⟨(B2.out.up (Up.setCell (P + 1) w2 (a := ⟨P, 5, none⟩) (Nat.lt_succ_self P) (vNat v2x)) (Nat.le_refl _)).e, (B2.out.up (Up.setCell (P + 1) w2 (a := ⟨P, 5, none⟩) (Nat.lt_succ_self P) (vNat v2x)) (Nat.le_refl _)).c⟩
    clear hr hg K
    dsimp only
    iterate 120 (first | done | exact msgG_end w wb B R P hBP hBw hBr HW HBk res post Hp g2 (⟨k, f, d, t, v1x, v2x, 0, [], 0, 0, noConf, [], false, 0, 0⟩ : Msg) (.slice none 0 0) (.slice none 0 0) (.slice none 0 0) (.slice none 0 0) (w2.setCell ⟨P, 5, none⟩ (vNat v2x)) H2 (HF2.out.base (S' := wb.heap.size) (Nat.le_succ_of_le H2.out.hP)) C2 | go_step)
set_option maxHeartbeats 4000000 in
set_option maxRecDepth 100000 in
theorem msgG_rep {v0 v1 v3 v6 v7 v8 v9 v10 v11 v12 v13 v14 v15 v16 v17 v18 v19 v20 v21 v22 v23 v24 v25 v26 v27 v28 v29 v30 v31 v32 v33 v34 v35 v36 v37 v38 v39 v40 v41 v42 v43 v44 v45 v46 v47 v48 v49 v50 v51 v52 v53 v54 v55 v56 v57 v58 v59 v60 v61 v62 v63 v64 v65 v66 v67 v68 v69 v70 v71 v72 v73 v74 v75 v76 v77 v78 v79 v80 v81 v82 v83 v84 v85 v86 v87 v88 v89 v90 v91 v92 v93 v94 v95 v96 v97 v98 v99 v100 v101 v102 v103 v104 v105 v106 v107 v108 v109 v110 v111 v112 v113 : Value} (w wb : World) (B R P : Nat) (hBP : B < P) (hBw : w.heap.size ≤ B) (hBr : B < wb.heap.size) (HW : Hid (∀ W, wb.grownBy W (some R) → Below w.heap.size w W)) (HBk : Hid (∀ W, wb.grownBy W (some R) → W.heap[B]? = some (.cells zeroMsg.toArray 29 (0, 0)))) (res : Res Msg)
    (post : Ending → World → Prop) (Hp : Hid (∀ e w', GotMsg w (full res) e w' → post e w'))
    (σ : St) (k f d t : Nat) (W : World) (H : Hid (It wb W R P 29 (rowMsg (⟨k, f, d, t, 0, 0, 0, [], 0, 0, noConf, [], false, 0, 0⟩ : Msg) (.slice none 0 0) (.slice none 0 0) (.slice none 0 0) (.slice none 0 0)) σ)) (HC : Hid (Cps res (fun u => okMsg (rdTail k f d t u)) σ)) (hk : k = 2 ∨ k = 4) :
    Code.wp Try.prog ((Try.f8.body.bind (seqAt 7)).getD .skip) (bodyPost Try.prog Try.f8 post) ⟨#[v0, v1, .pointer (some ⟨B, 0, none⟩), v3, .pointer (some ⟨R, 0, none⟩), .pointer (some ⟨P, 0, none⟩), v6, v7, v8, v9, v10, v11, v12, v13, v14, v15, v16, v17, v18, v19, v20, v21, v22, v23, v24, v25, v26, v27, v28, v29, v30, v31, v32, v33, v34, v35, v36, v37, v38, v39, v40, v41, v42, v43, v44, v45, v46, v47, v48, v49, v50, v51, v52, v53, v54, v55, v56, v57, v58, v59, v60, v61, v62, v63, v64, v65, v66, v67, v68, v69, v70, v71, v72, v73, v74, v75, v76, v77, v78, v79, v80, v81, v82, v83, v84, v85, v86, v87, v88, v89, v90, v91, v92, v93, v94, v95, v96, v97, v98, v99, v100, v101, v102, v103, v104, v105, v106, v107, v108, v109, v110, v111, v112, v113], []⟩ W := by
  conv => arg 2; whnf
  have HF : Hid (MsgF (P + 1) W (.slice none 0 0) (.slice none 0 0) (.slice none 0 0) (.slice none 0 0) (⟨k, f, d, t, 0, 0, 0, [], 0, 0, noConf, [], false, 0, 0⟩ : Msg)) := ⟨ents_nil _ _, ⟨IntsF.nil _ _, IntsF.nil _ _, IntsF.nil _ _⟩⟩
  have C0 : Hid (Cps res (fun u => bindR (rdFlag u) fun (x_rej : Bool) u => okMsg (.ok ((⟨k, f, d, t, 0, 0, 0, [], 0, 0, noConf, [], x_rej, 0, 0⟩ : Msg), u))) σ) := HC.out.of (fun u => by rw [rdTail, if_neg (by omega), if_pos hk]; simp only [rdRep_b, okMsg_bind]; rfl)
  have a0 := cell_n H.out.loc 0 (v := .int .i64 (k : Int)) rfl
  rcases hk with hk | hk
  · have t1 : ((k : Int) == 1) = false := beq_eq_false_iff_ne.2 (by omega)
    have t2 : ((k : Int) == 2) = true := by rw [hk]; rfl
    have t3 : ((k : Int) == 3) = false := beq_eq_false_iff_ne.2 (by omega)
    have t4 : ((k : Int) == 4) = false := beq_eq_false_iff_ne.2 (by omega)
    have t5 : ((k : Int) == 5) = false := beq_eq_false_iff_ne.2 (by omega)
    have t6 : ((k : Int) == 6) = false := beq_eq_false_iff_ne.2 (by omega)
    have t7 : ((k : Int) == 7) = false := beq_eq_false_iff_ne.2 (by omega)
    clear hk
    have K := Lib.hid (flag_rs H.out.rs)
    have c9 := Cps.bind false (fun _ _ => rdFlag_no) C0.out
    obtain ⟨v1x, hv1⟩ := hide (stepV false rdFlag σ)
    obtain ⟨g1, hs1⟩ := hide (stepS rdFlag σ)
    rw [hv1.out, hs1.out] at K c9
    have C1 : Hid (Cps res (fun u => okMsg (.ok ((⟨k, f, d, t, 0, 0, 0, [], 0, 0, noConf, [], v1x, 0, 0⟩ : Msg), u))) g1) := c9
    clear c9 hv1 hs1
    go_wp2_with fail
    refine K.out.mono ?_
    rintro e w1 ⟨rfl, hr, hg⟩
    have A1 := Lib.hid (H.out.read hr hg)
    have B1 := Lib.hid (HF.out.up (Up.ofGrown hg (Nat.lt_of_lt_of_le H.out.hR (Nat.le_succ_of_le H.out.hP))) (Nat.le_refl _))
    have c0 := cell_n A1.out.loc 14 (v := .bool false) rfl
    have f0 := free_n A1.out.loc 14
    have H1 : Hid (It wb (w1.setCell ⟨P, 14, none⟩ (vFlagR v1x)) R P 29 (rowMsg (⟨k, f, d, t, 0, 0, 0, [], 0, 0, noConf, [], v1x, 0, 0⟩ : Msg) (.slice none 0 0) (.slice none 0 0) (.slice none 0 0) (.slice none 0 0)) g1) := A1.out.put 14 _
    have HF1 : Hid (MsgF (P + 1) (w1.setCell ⟨P, 14, none⟩ (vFlagR v1x)) (.slice none 0 0) (.slice none 0 0) (.slice none 0 0) (.slice none 0 0) (⟨k, f, d, t, 0, 0, 0, [], 0, 0, noConf, [], v1x, 0, 0⟩ : Msg)) := ⟨(B1.out.up (Up.setCell (P + 1) w1 (a := ⟨P, 14, none⟩) (Nat.lt_succ_self P) (vFlagR v1x)) (Nat.le_refl _)).e, (B1.out.up (Up.setCell (P + 1) w1 (a := ⟨P, 14, none⟩) (Nat.lt_succ_self P) (vFlagR v1x)) (Nat.le_refl _)).c⟩
    clear hr hg K a0
    dsimp only
    iterate 120 (first | done | exact msgG_end w wb B R P hBP hBw hBr HW HBk res post Hp g1 (⟨k, f, d, t, 0, 0, 0, [], 0, 0, noConf, [], v1x, 0, 0⟩ : Msg) (.slice none 0 0) (.slice none 0 0) (.slice none 0 0) (.slice none 0 0) (w1.setCell ⟨P, 14, none⟩ (vFlagR v1x)) H1 (HF1.out.base (S' := wb.heap.size) (Nat.le_succ_of_le H1.out.hP)) C1 | go_step)
  · have t1 : ((k : Int) == 1) = false := beq_eq_false_iff_ne.2 (by omega)
    have t2 : ((k : Int) == 2) = false := beq_eq_false_iff_ne.2 (by omega)
    have t3 : ((k : Int) == 3) = false := beq_eq_false_iff_ne.2 (by omega)
    have t4 : ((k : Int) == 4) = true := by rw [hk]; rfl
    have t5 : ((k : Int) == 5) = false := beq_eq_false_iff_ne.2 (by omega)
    have t6 : ((k : Int) == 6) = false := beq_eq_false_iff_ne.2 (by omega)
    have t7 : ((k : Int) == 7) = false := beq_eq_false_iff_ne.2 (by omega)
    clear hk
    have K := Lib.hid (flag_rs H.out.rs)
    have c9 := Cps.bind false (fun _ _ => rdFlag_no) C0.out
    obtain ⟨v1x, hv1⟩ := hide (stepV false rdFlag σ)
    obtain ⟨g1, hs1⟩ := hide (stepS rdFlag σ)
    rw [hv1.out, hs1.out] at K c9
    have C1 : Hid (Cps res (fun u => okMsg (.ok ((⟨k, f, d, t, 0, 0, 0, [], 0, 0, noConf, [], v1x, 0, 0⟩ : Msg), u))) g1) := c9
    clear c9 hv1 hs1
    go_wp2_with fail
    refine K.out.mono ?_
    rintro e w1 ⟨rfl, hr, hg⟩
    have A1 := Lib.hid (H.out.read hr hg)
    have B1 := Lib.hid (HF.out.up (Up.ofGrown hg (Nat.lt_of_lt_of_le H.out.hR (Nat.le_succ_of_le H.out.hP))) (Nat.le_refl _))
    have c0 := cell_n A1.out.loc 14 (v := .bool false) rfl
    have f0 := free_n A1.out.loc 14
    have H1 : Hid (It wb (w1.setCell ⟨P, 14, none⟩ (vFlagR v1x)) R P 29 (rowMsg (⟨k, f, d, t, 0, 0, 0, [], 0, 0, noConf, [], v1x, 0, 0⟩ : Msg) (.slice none 0 0) (.slice none 0 0) (.slice none 0 0) (.slice none 0 0)) g1) := A1.out.put 14 _
    have HF1 : Hid (MsgF (P + 1) (w1.setCell ⟨P, 14, none⟩ (vFlagR v1x)) (.slice none 0 0) (.slice none 0 0) (.slice none 0 0) (.slice none 0 0) (⟨k, f, d, t, 0, 0, 0, [], 0, 0, noConf, [], v1x, 0, 0⟩ : Msg)) := ⟨(B1.out.up (Up.setCell (P + 1) w1 (a := ⟨P, 14, none⟩) (Nat.lt_succ_self P) (vFlagR v1x)) (Nat.le_refl _)).e, (B1.out.up (Up.setCell (P + 1) w1 (a := ⟨P, 14, none⟩) (Nat.lt_succ_self P) (vFlagR v1x)) (Nat.le_refl _)).c⟩
    clear hr hg K a0
    dsimp only
    iterate 120 (first | done | exact msgG_end w wb B R P hBP hBw hBr HW HBk res post Hp g1 (⟨k, f, d, t, 0, 0, 0, [], 0, 0, noConf, [], v1x, 0, 0⟩ : Msg) (.slice none 0 0) (.slice none 0 0) (.slice none 0 0) (.slice none 0 0) (w1.setCell ⟨P, 14, none⟩ (vFlagR v1x)) H1 (HF1.out.base (S' := wb.heap.size) (Nat.le_succ_of_le H1.out.hP)) C1 | go_step)
set_option maxHeartbeats 4000000 in
set_option maxRecDepth 100000 in
theorem msgG_back {v0 v1 v3 v6 v7 v8 v9 v10 v11 v12 v13 v14 v15 v16 v17 v18 v19 v20 v21 v22 v23 v24 v25 v26 v27 v28 v29 v30 v31 v32 v33 v34 v35 v36 v37 v38 v39 v40 v41 v42 v43 v44 v45 v46 v47 v48 v49 v50 v51 v52 v53 v54 v55 v56 v57 v58 v59 v60 v61 v62 v63 v64 v65 v66 v67 v68 v69 v70 v71 v72 v73 v74 v75 v76 v77 v78 v79 v80 v81 v82 v83 v84 v85 v86 v87 v88 v89 v90 v91 v92 v93 v94 v95 v96 v97 v98 v99 v100 v101 v102 v103 v104 v105 v106 v107 v108 v109 v110 v111 v112 v113 : Value} (w wb : World) (B R P : Nat) (hBP : B < P) (hBw : w.heap.size ≤ B) (hBr : B < wb.heap.size) (HW : Hid (∀ W, wb.grownBy W (some R) → Below w.heap.size w W)) (HBk : Hid (∀ W, wb.grownBy W (some R) → W.heap[B]? = some (.cells zeroMsg.toArray 29 (0, 0)))) (res : Res Msg)
    (post : Ending → World → Prop) (Hp : Hid (∀ e w', GotMsg w (full res) e w' → post e w'))
    (σ : St) (k f d t : Nat) (W : World) (H : Hid (It wb W R P 29 (rowMsg (⟨k, f, d, t, 0, 0, 0, [], 0, 0, noConf, [], false, 0, 0⟩ : Msg) (.slice none 0 0) (.slice none 0 0) (.slice none 0 0) (.slice none 0 0)) σ)) (HC : Hid (Cps res (fun u => okMsg (rdTail k f d t u)) σ)) (hk : k = 6) :
    Code.wp Try.prog ((Try.f8.body.bind (seqAt 7)).getD .skip) (bodyPost Try.prog Try.f8 post) ⟨#[v0, v1, .pointer (some ⟨B, 0, none⟩), v3, .pointer (some ⟨R, 0, none⟩), .pointer (some ⟨P, 0, none⟩), v6, v7, v8, v9, v10, v11, v12, v13, v14, v15, v16, v17, v18, v19, v20, v21, v22, v23, v24, v25, v26, v27, v28, v29, v30, v31, v32, v33, v34, v35, v36, v37, v38, v39, v40, v41, v42, v43, v44, v45, v46, v47, v48, v49, v50, v51, v52, v53, v54, v55, v56, v57, v58, v59, v60, v61, v62, v63, v64, v65, v66, v67, v68, v69, v70, v71, v72, v73, v74, v75, v76, v77, v78, v79, v80, v81, v82, v83, v84, v85, v86, v87, v88, v89, v90, v91, v92, v93, v94, v95, v96, v97, v98, v99, v100, v101, v102, v103, v104, v105, v106, v107, v108, v109, v110, v111, v112, v113], []⟩ W := by
  conv => arg 2; whnf
  have HF : Hid (MsgF (P + 1) W (.slice none 0 0) (.slice none 0 0) (.slice none 0 0) (.slice none 0 0) (⟨k, f, d, t, 0, 0, 0, [], 0, 0, noConf, [], false, 0, 0⟩ : Msg)) := ⟨ents_nil _ _, ⟨IntsF.nil _ _, IntsF.nil _ _, IntsF.nil _ _⟩⟩
  have C0 : Hid (Cps res (fun u => bindR (rdNum u) fun (x_index : Nat) u => bindR (rdFlag u) fun (x_rej : Bool) u => bindR (rdNum u) fun (x_hint : Nat) u => bindR (rdNum u) fun (x_ctx : Nat) u => okMsg (.ok ((⟨k, f, d, t, ↑x_index, 0, 0, [], 0, 0, noConf, [], x_rej, ↑x_hint, ↑x_ctx⟩ : Msg), u))) σ) := HC.out.of (fun u => by rw [rdTail, if_neg (by omega), if_neg (by omega), if_neg (by omega), if_pos hk]; simp only [rdBack_b, okMsg_bind]; rfl)
  have a0 := cell_n H.out.loc 0 (v := .int .i64 (k : Int)) rfl
  have t1 : ((k : Int) == 1) = false := beq_eq_false_iff_ne.2 (by omega)
  have t2 : ((k : Int) == 2) = false := beq_eq_false_iff_ne.2 (by omega)
  have t3 : ((k : Int) == 3) = false := beq_eq_false_iff_ne.2 (by omega)
  have t4 : ((k : Int) == 4) = false := beq_eq_false_iff_ne.2 (by omega)
  have t5 : ((k : Int) == 5) = false := beq_eq_false_iff_ne.2 (by omega)
  have t6 : ((k : Int) == 6) = true := by rw [hk]; rfl
  have t7 : ((k : Int) == 7) = false := beq_eq_false_iff_ne.2 (by omega)
  clear hk
  have K := Lib.hid (number_rs H.out.rs)
  have c9 := Cps.bind 0 rdNum_err' C0.out
  obtain ⟨v1x, hv1⟩ := hide (stepV 0 rdNum σ)
  obtain ⟨g1, hs1⟩ := hide (stepS rdNum σ)
  rw [hv1.out, hs1.out] at K c9
  have C1 : Hid (Cps res (fun u => bindR (rdFlag u) fun (x_rej : Bool) u => bindR (rdNum u) fun (x_hint : Nat) u => bindR (rdNum u) fun (x_ctx : Nat) u => okMsg (.ok ((⟨k, f, d, t, v1x, 0, 0, [], 0, 0, noConf, [], x_rej, ↑x_hint, ↑x_ctx⟩ : Msg), u))) g1) := c9
  clear c9 hv1 hs1
  go_wp2_with fail
  refine K.out.mono ?_
  rintro e w1 ⟨rfl, hr, hg⟩
  have A1 := Lib.hid (H.out.read hr hg)
  have B1 := Lib.hid (HF.out.up (Up.ofGrown hg (Nat.lt_of_lt_of_le H.out.hR (Nat.le_succ_of_le H.out.hP))) (Nat.le_refl _))
  have c0 := cell_n A1.out.loc 4 (v := .int .i64 0) rfl
  have f0 := free_n A1.out.loc 4
  have H1 : Hid (It wb (w1.setCell ⟨P, 4, none⟩ (vNat v1x)) R P 29 (rowMsg (⟨k, f, d, t, v1x, 0, 0, [], 0, 0, noConf, [], false, 0, 0⟩ : Msg) (.slice none 0 0) (.slice none 0 0) (.slice none 0 0) (.slice none 0 0)) g1) := A1.out.put 4 _
  have HF1 : Hid (MsgF (P + 1) (w1.setCell ⟨P, 4, none⟩ (vNat v1x)) (.slice none 0 0) (.slice none 0 0) (.slice none 0 0) (.slice none 0 0) (⟨k, f, d, t, v1x, 0, 0, [], 0, 0, noConf, [], false, 0, 0⟩ : Msg)) := ⟨(B1.out.up (Up.setCell (P + 1) w1 (a := ⟨P, 4, none⟩) (Nat.lt_succ_self P) (vNat v1x)) (Nat.le_refl _)).e, (B1.out.up (Up.setCell (P + 1) w1 (a := ⟨P, 4, none⟩) (Nat.lt_succ_self P) (vNat v1x)) (Nat.le_refl _)).c⟩
  clear hr hg K a0
  dsimp only
  have K := Lib.hid (flag_rs H1.out.rs)
  have c9 := Cps.bind false (fun _ _ => rdFlag_no) C1.out
  obtain ⟨v2x, hv2⟩ := hide (stepV false rdFlag g1)
  obtain ⟨g2, hs2⟩ := hide (stepS rdFlag g1)
  rw [hv2.out, hs2.out] at K c9
  have C2 : Hid (Cps res (fun u => bindR (rdNum u) fun (x_hint : Nat) u => bindR (rdNum u) fun (x_ctx : Nat) u => okMsg (.ok ((⟨k, f, d, t, v1x, 0, 0, [], 0, 0, noConf, [], v2x, ↑x_hint, ↑x_ctx⟩ : Msg), u))) g2) := c9
  clear c9 hv2 hs2
  go_wp2_with fail
  refine K.out.mono ?_
  rintro e w2 ⟨rfl, hr, hg⟩
  have A2 := Lib.hid (H1.out.read hr hg)
  have B2 := Lib.hid (HF1.out.up (Up.ofGrown hg (Nat.lt_of_lt_of_le H1.out.hR (Nat.le_succ_of_le H1.out.hP))) (Nat.le_refl _))
  have c0 := cell_n A2.out.loc 14 (v := .bool false) rfl
  have f0 := free_n A2.out.loc 14
  have H2 : Hid (It wb (w2.setCell ⟨P, 14, none⟩ (vFlagR v2x)) R P 29 (rowMsg (⟨k, f, d, t, v1x, 0, 0, [], 0, 0, noConf, [], v2x, 0, 0⟩ : Msg) (.slice none 0 0) (.slice none 0 0) (.slice none 0 0) (.slice none 0 0)) g2) := A2.out.put 14 _
  have HF2 : Hid (MsgF (P + 1) (w2.setCell ⟨P, 14, none⟩ (vFlagR v2x)) (.slice none 0 0) (.slice none 0 0) (.slice none 0 0) (.slice none 0 0) (⟨k, f, d, t, v1x, 0, 0, [], 0, 0, noConf, [], v2x, 0, 0⟩ : Msg)) := ⟨(B2.out.up (Up.setCell (P + 1) w2 (a := ⟨P, 14, none⟩) (Nat.lt_succ_self P) (vFlagR v2x)) (Nat.le_refl _)).e, (B2.out.up (Up.setCell (P + 1) w2 (a := ⟨P, 14, none⟩) (Nat.lt_succ_self P) (vFlagR v2x)) (Nat.le_refl _)).c⟩
  clear hr hg K
  dsimp only
  have K := Lib.hid (number_rs H2.out.rs)
  have c9 := Cps.bind 0 rdNum_err' C2.out
  obtain ⟨v3x, hv3⟩ := hide (stepV 0 rdNum g2)
  obtain ⟨g3, hs3⟩ := hide (stepS rdNum g2)
  rw [hv3.out, hs3.out] at K c9
  have C3 : Hid (Cps res (fun u => bindR (rdNum u) fun (x_ctx : Nat) u => okMsg (.ok ((⟨k, f, d, t, v1x, 0, 0, [], 0, 0, noConf, [], v2x, v3x, ↑x_ctx⟩ : Msg), u))) g3) := c9
  clear c9 hv3 hs3
  go_wp2_with fail
  refine K.out.mono ?_
  rintro e w3 ⟨rfl, hr, hg⟩
  have A3 := Lib.hid (H2.out.read hr hg)
  have B3 := Lib.hid (HF2.out.up (Up.ofGrown hg (Nat.lt_of_lt_of_le H2.out.hR (Nat.le_succ_of_le H2.out.hP))) (Nat.le_refl _))
  have c0 := cell_n A3.out.loc 15 (v := .int .i64 0) rfl
  have f0 := free_n A3.out.loc 15
  have H3 : Hid (It wb (w3.setCell ⟨P, 15, none⟩ (vNat v3x)) R P 29 (rowMsg (⟨k, f, d, t, v1x, 0, 0, [], 0, 0, noConf, [], v2x, v3x, 0⟩ : Msg) (.slice none 0 0) (.slice none 0 0) (.slice none 0 0) (.slice none 0 0)) g3) := A3.out.put 15 _
  have HF3 : Hid (MsgF (P + 1) (w3.setCell ⟨P, 15, none⟩ (vNat v3x)) (.slice none 0 0) (.slice none 0 0) (.slice none 0 0) (.slice none 0 0) (⟨k, f, d, t, v1x, 0, 0, [], 0, 0, noConf, [], v2x, v3x, 0⟩ : Msg)) := ⟨(B3.out.up (Up.setCell (P + 1) w3 (a := ⟨P, 15, none⟩) (Nat.lt_succ_self P) (vNat v3x)) (Nat.le_refl _)).e, (B3.out.up (Up.setCell (P + 1) w3 (a := ⟨P, 15, none⟩) (Nat.lt_succ_self P) (vNat v3x)) (Nat.le_refl _)).c⟩
  clear hr hg K
  dsimp only
  have K := Lib.hid (number_rs H3.out.rs)
  have c9 := Cps.bind 0 rdNum_err' C3.out
  obtain ⟨v4x, hv4⟩ := hide (stepV 0 rdNum g3)
  obtain ⟨g4, hs4⟩ := hide (stepS rdNum g3)
  rw [hv4.out, hs4.out] at K c9
  have C4 : Hid (Cps res (fun u => okMsg (.ok ((⟨k, f, d, t, v1x, 0, 0, [], 0, 0, noConf, [], v2x, v3x, v4x⟩ : Msg), u))) g4) := c9
  clear c9 hv4 hs4
  go_wp2_with fail
  refine K.out.mono ?_
  rintro e w4 ⟨rfl, hr, hg⟩
  have A4 := Lib.hid (H3.out.read hr hg)
  have B4 := Lib.hid (HF3.out.up (Up.ofGrown hg (Nat.lt_of_lt_of_le H3.out.hR (Nat.le_succ_of_le H3.out.hP))) (Nat.le_refl _))
  have c0 := cell_n A4.out.loc 16 (v := .int .i64 0) rfl
  have f0 := free_n A4.out.loc 16
  have H4 : Hid (It wb (w4.setCell ⟨P, 16, none⟩ (vNat v4x)) R P 29 (rowMsg (⟨k, f, d, t, v1x, 0, 0, [], 0, 0, noConf, [], v2x, v3x, v4x⟩ : Msg) (.slice none 0 0) (.slice none 0 0) (.slice none 0 0) (.slice none 0 0)) g4) := A4.out.put 16 _
  have HF4 : Hid (MsgF (P + 1) (w4.setCell ⟨P, 16, none⟩ (vNat v4x)) (.slice none 0 0) (.slice none 0 0) (.slice none 0 0) (.slice none 0 0) (⟨k, f, d, t, v1x, 0, 0, [], 0, 0, noConf, [], v2x, v3x, v4x⟩ : Msg)) := ⟨(B4.out.up (Up.setCell (P + 1) w4 (a := ⟨P, 16, none⟩) (Nat.lt_succ_self P) (vNat v4x)) (Nat.le_refl _)).e, (B4.out.up (Up.setCell (P + 1) w4 (a := ⟨P, 16, none⟩) (Nat.lt_succ_self P) (vNat v4x)) (Nat.le_refl _)).c⟩
  clear hr hg K
  dsimp only
  iterate 120 (first | done | exact msgG_end w wb B R P hBP hBw hBr HW HBk res post Hp g4 (⟨k, f, d, t, v1x, 0, 0, [], 0, 0, noConf, [], v2x, v3x, v4x⟩ : Msg) (.slice none 0 0) (.slice none 0 0) (.slice none 0 0) (.slice none 0 0) (w4.setCell ⟨P, 16, none⟩ (vNat v4x)) H4 (HF4.out.base (S' := wb.heap.size) (Nat.le_succ_of_le H4.out.hP)) C4 | go_step)
set_option maxHeartbeats 4000000 in
set_option maxRecDepth 100000 in
theorem msgG_none {v0 v1 v3 v6 v7 v8 v9 v10 v11 v12 v13 v14 v15 v16 v17 v18 v19 v20 v21 v22 v23 v24 v25 v26 v27 v28 v29 v30 v31 v32 v33 v34 v35 v36 v37 v38 v39 v40 v41 v42 v43 v44 v45 v46 v47 v48 v49 v50 v51 v52 v53 v54 v55 v56 v57 v58 v59 v60 v61 v62 v63 v64 v65 v66 v67 v68 v69 v70 v71 v72 v73 v74 v75 v76 v77 v78 v79 v80 v81 v82 v83 v84 v85 v86 v87 v88 v89 v90 v91 v92 v93 v94 v95 v96 v97 v98 v99 v100 v101 v102 v103 v104 v105 v106 v107 v108 v109 v110 v111 v112 v113 : Value} (w wb : World) (B R P : Nat) (hBP : B < P) (hBw : w.heap.size ≤ B) (hBr : B < wb.heap.size) (HW : Hid (∀ W, wb.grownBy W (some R) → Below w.heap.size w W)) (HBk : Hid (∀ W, wb.grownBy W (some R) → W.heap[B]? = some (.cells zeroMsg.toArray 29 (0, 0)))) (res : Res Msg)
    (post : Ending → World → Prop) (Hp : Hid (∀ e w', GotMsg w (full res) e w' → post e w'))
    (σ : St) (k f d t : Nat) (W : World) (H : Hid (It wb W R P 29 (rowMsg (⟨k, f, d, t, 0, 0, 0, [], 0, 0, noConf, [], false, 0, 0⟩ : Msg) (.slice none 0 0) (.slice none 0 0) (.slice none 0 0) (.slice none 0 0)) σ)) (HC : Hid (Cps res (fun u => okMsg (rdTail k f d t u)) σ)) (hk : ¬ (1 ≤ k ∧ k ≤ 7)) :
    Code.wp Try.prog ((Try.f8.body.bind (seqAt 7)).getD .skip) (bodyPost Try.prog Try.f8 post) ⟨#[v0, v1, .pointer (some ⟨B, 0, none⟩), v3, .pointer (some ⟨R, 0, none⟩), .pointer (some ⟨P, 0, none⟩), v6, v7, v8, v9, v10, v11, v12, v13, v14, v15, v16, v17, v18, v19, v20, v21, v22, v23, v24, v25, v26, v27, v28, v29, v30, v31, v32, v33, v34, v35, v36, v37, v38, v39, v40, v41, v42, v43, v44, v45, v46, v47, v48, v49, v50, v51, v52, v53, v54, v55, v56, v57, v58, v59, v60, v61, v62, v63, v64, v65, v66, v67, v68, v69, v70, v71, v72, v73, v74, v75, v76, v77, v78, v79, v80, v81, v82, v83, v84, v85, v86, v87, v88, v89, v90, v91, v92, v93, v94, v95, v96, v97, v98, v99, v100, v101, v102, v103, v104, v105, v106, v107, v108, v109, v110, v111, v112, v113], []⟩ W := by
  conv => arg 2; whnf
  have HF : Hid (MsgF (P + 1) W (.slice none 0 0) (.slice none 0 0) (.slice none 0 0) (.slice none 0 0) (⟨k, f, d, t, 0, 0, 0, [], 0, 0, noConf, [], false, 0, 0⟩ : Msg)) := ⟨ents_nil _ _, ⟨IntsF.nil _ _, IntsF.nil _ _, IntsF.nil _ _⟩⟩
  have C0 : Hid (Cps res (fun u => okMsg (.ok ((⟨k, f, d, t, 0, 0, 0, [], 0, 0, noConf, [], false, 0, 0⟩ : Msg), u))) σ) := HC.out.of (fun u => by rw [rdTail, if_neg (by omega), if_neg (by omega), if_neg (by omega), if_neg (by omega), if_neg (by omega)])
  have a0 := cell_n H.out.loc 0 (v := .int .i64 (k : Int)) rfl
  have t1 : ((k : Int) == 1) = false := beq_eq_false_iff_ne.2 (by omega)
  have t2 : ((k : Int) == 2) = false := beq_eq_false_iff_ne.2 (by omega)
  have t3 : ((k : Int) == 3) = false := beq_eq_false_iff_ne.2 (by omega)
  have t4 : ((k : Int) == 4) = false := beq_eq_false_iff_ne.2 (by omega)
  have t5 : ((k : Int) == 5) = false := beq_eq_false_iff_ne.2 (by omega)
  have t6 : ((k : Int) == 6) = false := beq_eq_false_iff_ne.2 (by omega)
  have t7 : ((k : Int) == 7) = false := beq_eq_false_iff_ne.2 (by omega)
  clear hk
  iterate 120 (first | done | exact msgG_end w wb B R P hBP hBw hBr HW HBk res post Hp σ (⟨k, f, d, t, 0, 0, 0, [], 0, 0, noConf, [], false, 0, 0⟩ : Msg) (.slice none 0 0) (.slice none 0 0) (.slice none 0 0) (.slice none 0 0) W H (HF.out.base (S' := wb.heap.size) (Nat.le_succ_of_le H.out.hP)) C0 | go_step)
end Go.Proofs.Ytkcllpbbjlbfaaa

namespace Go.Proofs.Ytkcllpbbjlbfaaa
open Go.RowKit Wm Mm Lg
set_option linter.unusedVariables false
set_option linter.unusedSimpArgs false

set_option maxHeartbeats 4000000 in
set_option maxRecDepth 100000 in
theorem msgG_inst {v0 v1 v3 v6 v7 v8 v9 v10 v11 v12 v13 v14 v15 v16 v17 v18 v19 v20 v21 v22 v23 v24 v25 v26 v27 v28 v29 v30 v31 v32 v33 v34 v35 v36 v37 v38 v39 v40 v41 v42 v43 v44 v45 v46 v47 v48 v49 v50 v51 v52 v53 v54 v55 v56 v57 v58 v59 v60 v61 v62 v63 v64 v65 v66 v67 v68 v69 v70 v71 v72 v73 v74 v75 v76 v77 v78 v79 v80 v81 v82 v83 v84 v85 v86 v87 v88 v89 v90 v91 v92 v93 v94 v95 v96 v97 v98 v99 v100 v101 v102 v103 v104 v105 v106 v107 v108 v109 v110 v111 v112 v113 : Value} (w wb : World) (B R P : Nat) (hBP : B < P) (hBw : w.heap.size ≤ B) (hBr : B < wb.heap.size) (HW : Hid (∀ W, wb.grownBy W (some R) → Below w.heap.size w W)) (HBk : Hid (∀ W, wb.grownBy W (some R) → W.heap[B]? = some (.cells zeroMsg.toArray 29 (0, 0)))) (res : Res Msg)
    (post : Ending → World → Prop) (Hp : Hid (∀ e w', GotMsg w (full res) e w' → post e w'))
    (σ : St) (k f d t : Nat) (W : World) (H : Hid (It wb W R P 29 (rowMsg (⟨k, f, d, t, 0, 0, 0, [], 0, 0, noConf, [], false, 0, 0⟩ : Msg) (.slice none 0 0) (.slice none 0 0) (.slice none 0 0) (.slice none 0 0)) σ)) (HC : Hid (Cps res (fun u => okMsg (rdTail k f d t u)) σ)) (hk : k = 7) :
    Code.wp Try.prog ((Try.f8.body.bind (seqAt 7)).getD .skip) (bodyPost Try.prog Try.f8 post) ⟨#[v0, v1, .pointer (some ⟨B, 0, none⟩), v3, .pointer (some ⟨R, 0, none⟩), .pointer (some ⟨P, 0, none⟩), v6, v7, v8, v9, v10, v11, v12, v13, v14, v15, v16, v17, v18, v19, v20, v21, v22, v23, v24, v25, v26, v27, v28, v29, v30, v31, v32, v33, v34, v35, v36, v37, v38, v39, v40, v41, v42, v43, v44, v45, v46, v47, v48, v49, v50, v51, v52, v53, v54, v55, v56, v57, v58, v59, v60, v61, v62, v63, v64, v65, v66, v67, v68, v69, v70, v71, v72, v73, v74, v75, v76, v77, v78, v79, v80, v81, v82, v83, v84, v85, v86, v87, v88, v89, v90, v91, v92, v93, v94, v95, v96, v97, v98, v99, v100, v101, v102, v103, v104, v105, v106, v107, v108, v109, v110, v111, v112, v113], []⟩ W := by
  conv => arg 2; whnf
  have HF : Hid (MsgF (P + 1) W (.slice none 0 0) (.slice none 0 0) (.slice none 0 0) (.slice none 0 0) (⟨k, f, d, t, 0, 0, 0, [], 0, 0, noConf, [], false, 0, 0⟩ : Msg)) := ⟨ents_nil _ _, ⟨IntsF.nil _ _, IntsF.nil _ _, IntsF.nil _ _⟩⟩
  have C0 : Hid (Cps res (fun u => bindR (rdNum u) fun (x : Nat) u => bindR (rdSnap u) fun (q : Snap) u => okMsg (.ok (M0 k f d t 0 0 0 [] q false 0 x, u))) σ) := HC.out.of (fun u => by rw [rdTail, if_neg (by omega), if_neg (by omega), if_neg (by omega), if_neg (by omega), if_pos hk]; simp only [rdInst_b, okMsg_bind]; try rfl)
  have a0 := cell_n H.out.loc 0 (v := .int .i64 (k : Int)) rfl
  have t1 : ((k : Int) == 1) = false := beq_eq_false_iff_ne.2 (by omega)
  have t2 : ((k : Int) == 2) = false := beq_eq_false_iff_ne.2 (by omega)
  have t3 : ((k : Int) == 3) = false := beq_eq_false_iff_ne.2 (by omega)
  have t4 : ((k : Int) == 4) = false := beq_eq_false_iff_ne.2 (by omega)
  have t5 : ((k : Int) == 5) = false := beq_eq_false_iff_ne.2 (by omega)
  have t6 : ((k : Int) == 6) = false := beq_eq_false_iff_ne.2 (by omega)
  have t7 : ((k : Int) == 7) = true := by rw [hk]; rfl
  clear hk
  have K := Lib.hid (number_rs H.out.rs)
  have c9 := Cps.bind 0 rdNum_err' C0.out
  obtain ⟨v1x, hv1⟩ := hide (stepV 0 rdNum σ)
  obtain ⟨g1, hs1⟩ := hide (stepS rdNum σ)
  rw [hv1.out, hs1.out] at K c9
  have C1 : Hid (Cps res (fun u => bindR (rdSnap u) fun (q : Snap) u => okMsg (.ok (M0 k f d t 0 0 0 [] q false 0 v1x, u))) g1) := c9
  clear c9 hv1 hs1
  go_wp2_with fail
  refine K.out.mono ?_
  rintro e w1 ⟨rfl, hr, hg⟩
  have A1 := Lib.hid (H.out.read hr hg)
  have B1 := Lib.hid (HF.out.up (Up.ofGrown hg (Nat.lt_of_lt_of_le H.out.hR (Nat.le_succ_of_le H.out.hP))) (Nat.le_refl _))
  have c0 := cell_n A1.out.loc 16 (v := .int .i64 0) rfl
  have f0 := free_n A1.out.loc 16
  have H1 : Hid (It wb (w1.setCell ⟨P, 16, none⟩ (vNat v1x)) R P 29 (rowMsg (⟨k, f, d, t, 0, 0, 0, [], 0, 0, noConf, [], false, 0, v1x⟩ : Msg) (.slice none 0 0) (.slice none 0 0) (.slice none 0 0) (.slice none 0 0)) g1) := A1.out.put 16 _
  have HF1 : Hid (MsgF (P + 1) (w1.setCell ⟨P, 16, none⟩ (vNat v1x)) (.slice none 0 0) (.slice none 0 0) (.slice none 0 0) (.slice none 0 0) (⟨k, f, d, t, 0, 0, 0, [], 0, 0, noConf, [], false, 0, v1x⟩ : Msg)) := ⟨(B1.out.up (Up.setCell (P + 1) w1 (a := ⟨P, 16, none⟩) (Nat.lt_succ_self P) (vNat v1x)) (Nat.le_refl _)).e, (B1.out.up (Up.setCell (P + 1) w1 (a := ⟨P, 16, none⟩) (Nat.lt_succ_self P) (vNat v1x)) (Nat.le_refl _)).c⟩
  clear hr hg K a0
  dsimp only
  have K := Lib.hid (snapshot_rs H1.out.rs)
  have c9 := Cps.meth snapS_error snapS_same C1.out
  obtain ⟨q, hq⟩ := hide (snapS g1).1
  obtain ⟨g2, hs2⟩ := hide (snapS g1).2
  rw [hq.out, hs2.out] at K c9
  have C2 : Hid (Cps res (fun u => okMsg (.ok ((⟨k, f, d, t, 0, 0, 0, [], q.index, q.term, q.conf, q.data, false, 0, v1x⟩ : Msg), u))) g2) := c9
  clear c9 hq hs2
  go_wp2_with fail
  refine K.out.mono ?_
  rintro e w2 ⟨cx, cy, cz, rfl, hcf, hr, hg⟩
  obtain ⟨ax, kx, rfl⟩ := hcf.v.len
  obtain ⟨ay, ky, rfl⟩ := hcf.n.len
  obtain ⟨az, kz, rfl⟩ := hcf.l.len
  have hPs : P + 1 ≤ (w1.setCell ⟨P, 16, none⟩ (vNat v1x)).heap.size := lt_of_block H1.out.loc
  have A2 := Lib.hid (H1.out.read hr hg)
  have B2 : Hid (MsgF (P + 1) w2 (.slice none 0 0) (.slice ax q.conf.v.length kx) (.slice ay q.conf.n.length ky) (.slice az q.conf.l.length kz) (⟨k, f, d, t, 0, 0, 0, [], q.index, q.term, q.conf, q.data, false, 0, v1x⟩ : Msg)) := ⟨ents_nil _ _, hcf.base hPs⟩
  have d0 := cell_n A2.out.loc 8 (v := .int .i64 0) rfl
  have e0 := free_n A2.out.loc 8
  have d1 := cell_n A2.out.loc 9 (v := .int .i64 0) rfl
  have e1 := free_n A2.out.loc 9
  have d2 := cell_n A2.out.loc 10 (v := (.slice none 0 0)) rfl
  have e2 := free_n A2.out.loc 10
  have d3 := cell_n A2.out.loc 11 (v := (.slice none 0 0)) rfl
  have e3 := free_n A2.out.loc 11
  have d4 := cell_n A2.out.loc 12 (v := (.slice none 0 0)) rfl
  have e4 := free_n A2.out.loc 12
  have d5 := cell_n A2.out.loc 13 (v := .string ⟨#[]⟩) rfl
  have e5 := free_n A2.out.loc 13
  have H2 : Hid (It wb ((((((w2.setCell ⟨P, 8, none⟩ (.int .i64 (q.index : Int))).setCell ⟨P, 9, none⟩ (.int .i64 (q.term : Int))).setCell ⟨P, 10, none⟩ ((.slice ax q.conf.v.length kx))).setCell ⟨P, 11, none⟩ ((.slice ay q.conf.n.length ky))).setCell ⟨P, 12, none⟩ ((.slice az q.conf.l.length kz))).setCell ⟨P, 13, none⟩ (str q.data)) R P 29 (rowMsg (⟨k, f, d, t, 0, 0, 0, [], q.index, q.term, q.conf, q.data, false, 0, v1x⟩ : Msg) (.slice none 0 0) (.slice ax q.conf.v.length kx) (.slice ay q.conf.n.length ky) (.slice az q.conf.l.length kz)) g2) := ((((((A2.out.put 8 (.int .i64 (q.index : Int))).put 9 (.int .i64 (q.term : Int))).put 10 ((.slice ax q.conf.v.length kx))).put 11 ((.slice ay q.conf.n.length ky))).put 12 ((.slice az q.conf.l.length kz))).put 13 (str q.data))
  have HF2 : Hid (MsgF (P + 1) ((((((w2.setCell ⟨P, 8, none⟩ (.int .i64 (q.index : Int))).setCell ⟨P, 9, none⟩ (.int .i64 (q.term : Int))).setCell ⟨P, 10, none⟩ ((.slice ax q.conf.v.length kx))).setCell ⟨P, 11, none⟩ ((.slice ay q.conf.n.length ky))).setCell ⟨P, 12, none⟩ ((.slice az q.conf.l.length kz))).setCell ⟨P, 13, none⟩ (str q.data)) (.slice none 0 0) (.slice ax q.conf.v.length kx) (.slice ay q.conf.n.length ky) (.slice az q.conf.l.length kz) (⟨k, f, d, t, 0, 0, 0, [], q.index, q.term, q.conf, q.data, false, 0, v1x⟩ : Msg)) := ((((((B2.out.up (Up.setCell (P + 1) w2 (a := ⟨P, 8, none⟩) (Nat.lt_succ_self P) (.int .i64 (q.index : Int))) (Nat.le_refl _)).up (Up.setCell (P + 1) (w2.setCell ⟨P, 8, none⟩ (.int .i64 (q.index : Int))) (a := ⟨P, 9, none⟩) (Nat.lt_succ_self P) (.int .i64 (q.term : Int))) (Nat.le_refl _)).up (Up.setCell (P + 1) ((w2.setCell ⟨P, 8, none⟩ (.int .i64 (q.index : Int))).setCell ⟨P, 9, none⟩ (.int .i64 (q.term : Int))) (a := ⟨P, 10, none⟩) (Nat.lt_succ_self P) ((.slice ax q.conf.v.length kx))) (Nat.le_refl _)).up (Up.setCell (P + 1) (((w2.setCell ⟨P, 8, none⟩ (.int .i64 (q.index : Int))).setCell ⟨P, 9, none⟩ (.int .i64 (q.term : Int))).setCell ⟨P, 10, none⟩ ((.slice ax q.conf.v.length kx))) (a := ⟨P, 11, none⟩) (Nat.lt_succ_self P) ((.slice ay q.conf.n.length ky))) (Nat.le_refl _)).up (Up.setCell (P + 1) ((((w2.setCell ⟨P, 8, none⟩ (.int .i64 (q.index : Int))).setCell ⟨P, 9, none⟩ (.int .i64 (q.term : Int))).setCell ⟨P, 10, none⟩ ((.slice ax q.conf.v.length kx))).setCell ⟨P, 11, none⟩ ((.slice ay q.conf.n.length ky))) (a := ⟨P, 12, none⟩) (Nat.lt_succ_self P) ((.slice az q.conf.l.length kz))) (Nat.le_refl _)).up (Up.setCell (P + 1) (((((w2.setCell ⟨P, 8, none⟩ (.int .i64 (q.index : Int))).setCell ⟨P, 9, none⟩ (.int .i64 (q.term : Int))).setCell ⟨P, 10, none⟩ ((.slice ax q.conf.v.length kx))).setCell ⟨P, 11, none⟩ ((.slice ay q.conf.n.length ky))).setCell ⟨P, 12, none⟩ ((.slice az q.conf.l.length kz))) (a := ⟨P, 13, none⟩) (Nat.lt_succ_self P) (str q.data)) (Nat.le_refl _))
  clear hr hg K hcf c0 f0
  dsimp only
  iterate 120 (first | done | exact msgG_end w wb B R P hBP hBw hBr HW HBk res post Hp g2 (⟨k, f, d, t, 0, 0, 0, [], q.index, q.term, q.conf, q.data, false, 0, v1x⟩ : Msg) (.slice none 0 0) (.slice ax q.conf.v.length kx) (.slice ay q.conf.n.length ky) (.slice az q.conf.l.length kz) ((((((w2.setCell ⟨P, 8, none⟩ (.int .i64 (q.index : Int))).setCell ⟨P, 9, none⟩ (.int .i64 (q.term : Int))).setCell ⟨P, 10, none⟩ ((.slice ax q.conf.v.length kx))).setCell ⟨P, 11, none⟩ ((.slice ay q.conf.n.length ky))).setCell ⟨P, 12, none⟩ ((.slice az q.conf.l.length kz))).setCell ⟨P, 13, none⟩ (str q.data)) H2 (HF2.out.base (S' := wb.heap.size) (Nat.le_succ_of_le H2.out.hP)) C2 | go_step)
set_option maxHeartbeats 4000000 in
set_option maxRecDepth 100000 in
theorem msgG_app {v0 v1 v3 v6 v7 v8 v9 v10 v11 v12 v13 v14 v15 v16 v17 v18 v19 v20 v21 v22 v23 v24 v25 v26 v27 v28 v29 v30 v31 v32 v33 v34 v35 v36 v37 v38 v39 v40 v41 v42 v43 v44 v45 v46 v47 v48 v49 v50 v51 v52 v53 v54 v55 v56 v57 v58 v59 v60 v61 v62 v63 v64 v65 v66 v67 v68 v69 v70 v71 v72 v73 v74 v75 v76 v77 v78 v79 v80 v81 v82 v83 v84 v85 v86 v87 v88 v89 v90 v91 v92 v93 v94 v95 v96 v97 v98 v99 v100 v101 v102 v103 v104 v105 v106 v107 v108 v109 v110 v111 v112 v113 : Value} (w wb : World) (B R P : Nat) (hBP : B < P) (hBw : w.heap.size ≤ B) (hBr : B < wb.heap.size) (HW : Hid (∀ W, wb.grownBy W (some R) → Below w.heap.size w W)) (HBk : Hid (∀ W, wb.grownBy W (some R) → W.heap[B]? = some (.cells zeroMsg.toArray 29 (0, 0)))) (res : Res Msg)
    (post : Ending → World → Prop) (Hp : Hid (∀ e w', GotMsg w (full res) e w' → post e w'))
    (σ : St) (k f d t : Nat) (W : World) (H : Hid (It wb W R P 29 (rowMsg (⟨k, f, d, t, 0, 0, 0, [], 0, 0, noConf, [], false, 0, 0⟩ : Msg) (.slice none 0 0) (.slice none 0 0) (.slice none 0 0) (.slice none 0 0)) σ)) (HC : Hid (Cps res (fun u => okMsg (rdTail k f d t u)) σ)) (hk : k = 5) :
    Code.wp Try.prog ((Try.f8.body.bind (seqAt 7)).getD .skip) (bodyPost Try.prog Try.f8 post) ⟨#[v0, v1, .pointer (some ⟨B, 0, none⟩), v3, .pointer (some ⟨R, 0, none⟩), .pointer (some ⟨P, 0, none⟩), v6, v7, v8, v9, v10, v11, v12, v13, v14, v15, v16, v17, v18, v19, v20, v21, v22, v23, v24, v25, v26, v27, v28, v29, v30, v31, v32, v33, v34, v35, v36, v37, v38, v39, v40, v41, v42, v43, v44, v45, v46, v47, v48, v49, v50, v51, v52, v53, v54, v55, v56, v57, v58, v59, v60, v61, v62, v63, v64, v65, v66, v67, v68, v69, v70, v71, v72, v73, v74, v75, v76, v77, v78, v79, v80, v81, v82, v83, v84, v85, v86, v87, v88, v89, v90, v91, v92, v93, v94, v95, v96, v97, v98, v99, v100, v101, v102, v103, v104, v105, v106, v107, v108, v109, v110, v111, v112, v113], []⟩ W := by
  conv => arg 2; whnf
  have HF : Hid (MsgF (P + 1) W (.slice none 0 0) (.slice none 0 0) (.slice none 0 0) (.slice none 0 0) (⟨k, f, d, t, 0, 0, 0, [], 0, 0, noConf, [], false, 0, 0⟩ : Msg)) := ⟨ents_nil _ _, ⟨IntsF.nil _ _, IntsF.nil _ _, IntsF.nil _ _⟩⟩
  have C0 : Hid (Cps res (fun u => bindR (rdNum u) fun (x_index : Nat) u => bindR (rdNum u) fun (x_logTerm : Nat) u => bindR (rdNum u) fun (x_commit : Nat) u => bindR (rdNum u) fun (x_ctx : Nat) u => bindR (rdUpTo 8 u) fun (n : Nat) u => bindR (rdEnts n [] u) (fun (es : List EntP) u => okMsg (.ok ((⟨k, f, d, t, ↑x_index, ↑x_logTerm, ↑x_commit, es, 0, 0, noConf, [], false, 0, ↑x_ctx⟩ : Msg), u)))) σ) := HC.out.of (fun u => by rw [rdTail, if_neg (by omega), if_neg (by omega), if_pos hk]; simp only [rdApp_b, okMsg_bind]; try rfl)
  have a0 := cell_n H.out.loc 0 (v := .int .i64 (k : Int)) rfl
  have t1 : ((k : Int) == 1) = false := beq_eq_false_iff_ne.2 (by omega)
  have t2 : ((k : Int) == 2) = false := beq_eq_false_iff_ne.2 (by omega)
  have t3 : ((k : Int) == 3) = false := beq_eq_false_iff_ne.2 (by omega)
  have t4 : ((k : Int) == 4) = false := beq_eq_false_iff_ne.2 (by omega)
  have t5 : ((k : Int) == 5) = true := by rw [hk]; rfl
  have t6 : ((k : Int) == 6) = false := beq_eq_false_iff_ne.2 (by omega)
  have t7 : ((k : Int) == 7) = false := beq_eq_false_iff_ne.2 (by omega)
  clear hk
  have K := Lib.hid (number_rs H.out.rs)
  have c9 := Cps.bind 0 rdNum_err' C0.out
  obtain ⟨v1x, hv1⟩ := hide (stepV 0 rdNum σ)
  obtain ⟨g1, hs1⟩ := hide (stepS rdNum σ)
  rw [hv1.out, hs1.out] at K c9
  have C1 : Hid (Cps res (fun u => bindR (rdNum u) fun (x_logTerm : Nat) u => bindR (rdNum u) fun (x_commit : Nat) u => bindR (rdNum u) fun (x_ctx : Nat) u => bindR (rdUpTo 8 u) fun (n : Nat) u => bindR (rdEnts n [] u) (fun (es : List EntP) u => okMsg (.ok ((⟨k, f, d, t, v1x, ↑x_logTerm, ↑x_commit, es, 0, 0, noConf, [], false, 0, ↑x_ctx⟩ : Msg), u)))) g1) := c9
  clear c9 hv1 hs1
  go_wp2_with fail
  refine K.out.mono ?_
  rintro e w1 ⟨rfl, hr, hg⟩
  have A1 := Lib.hid (H.out.read hr hg)
  have B1 := Lib.hid (HF.out.up (Up.ofGrown hg (Nat.lt_of_lt_of_le H.out.hR (Nat.le_succ_of_le H.out.hP))) (Nat.le_refl _))
  have c0 := cell_n A1.out.loc 4 (v := .int .i64 0) rfl
  have f0 := free_n A1.out.loc 4
  have H1 : Hid (It wb (w1.setCell ⟨P, 4, none⟩ (vNat v1x)) R P 29 (rowMsg (⟨k, f, d, t, v1x, 0, 0, [], 0, 0, noConf, [], false, 0, 0⟩ : Msg) (.slice none 0 0) (.slice none 0 0) (.slice none 0 0) (.slice none 0 0)) g1) := A1.out.put 4 _
  have HF1 : Hid (MsgF (P + 1) (w1.setCell ⟨P, 4, none⟩ (vNat v1x)) (.slice none 0 0) (.slice none 0 0) (.slice none 0 0) (.slice none 0 0) (⟨k, f, d, t, v1x, 0, 0, [], 0, 0, noConf, [], false, 0, 0⟩ : Msg)) := ⟨(B1.out.up (Up.setCell (P + 1) w1 (a := ⟨P, 4, none⟩) (Nat.lt_succ_self P) (vNat v1x)) (Nat.le_refl _)).e, (B1.out.up (Up.setCell (P + 1) w1 (a := ⟨P, 4, none⟩) (Nat.lt_succ_self P) (vNat v1x)) (Nat.le_refl _)).c⟩
  clear hr hg K a0
  dsimp only
  have K := Lib.hid (number_rs H1.out.rs)
  have c9 := Cps.bind 0 rdNum_err' C1.out
  obtain ⟨v2x, hv2⟩ := hide (stepV 0 rdNum g1)
  obtain ⟨g2, hs2⟩ := hide (stepS rdNum g1)
  rw [hv2.out, hs2.out] at K c9
  have C2 : Hid (Cps res (fun u => bindR (rdNum u) fun (x_commit : Nat) u => bindR (rdNum u) fun (x_ctx : Nat) u => bindR (rdUpTo 8 u) fun (n : Nat) u => bindR (rdEnts n [] u) (fun (es : List EntP) u => okMsg (.ok ((⟨k, f, d, t, v1x, v2x, ↑x_commit, es, 0, 0, noConf, [], false, 0, ↑x_ctx⟩ : Msg), u)))) g2) := c9
  clear c9 hv2 hs2
  go_wp2_with fail
  refine K.out.mono ?_
  rintro e w2 ⟨rfl, hr, hg⟩
  have A2 := Lib.hid (H1.out.read hr hg)
  have B2 := Lib.hid (HF1.out.up (Up.ofGrown hg (Nat.lt_of_lt_of_le H1.out.hR (Nat.le_succ_of_le H1.out.hP))) (Nat.le_refl _))
  have c0 := cell_n A2.out.loc 5 (v := .int .i64 0) rfl
  have f0 := free_n A2.out.loc 5
  have H2 : Hid (It wb (w2.setCell ⟨P, 5, none⟩ (vNat v2x)) R P 29 (rowMsg (⟨k, f, d, t, v1x, v2x, 0, [], 0, 0, noConf, [], false, 0, 0⟩ : Msg) (.slice none 0 0) (.slice none 0 0) (.slice none 0 0) (.slice none 0 0)) g2) := A2.out.put 5 _
  have HF2 : Hid (MsgF (P + 1) (w2.setCell ⟨P, 5, none⟩ (vNat v2x)) (.slice none 0 0) (.slice none 0 0) (.slice none 0 0) (.slice none 0 0) (⟨k, f, d, t, v1x, v2x, 0, [], 0, 0, noConf, [], false, 0, 0⟩ : Msg)) := ⟨(B2.out.up (Up.setCell (P + 1) w2 (a := ⟨P, 5, none⟩) (Nat.lt_succ_self P) (vNat v2x)) (Nat.le_refl _)).e, (B2.out.up (Up.setCell (P + 1) w2 (a := ⟨P, 5, none⟩) (Nat.lt_succ_self P) (vNat v2x)) (Nat.le_refl _)).c⟩
  clear hr hg K
  dsimp only
  have K := Lib.hid (number_rs H2.out.rs)
  have c9 := Cps.bind 0 rdNum_err' C2.out
  obtain ⟨v3x, hv3⟩ := hide (stepV 0 rdNum g2)
  obtain ⟨g3, hs3⟩ := hide (stepS rdNum g2)
  rw [hv3.out, hs3.out] at K c9
  have C3 : Hid (Cps res (fun u => bindR (rdNum u) fun (x_ctx : Nat) u => bindR (rdUpTo 8 u) fun (n : Nat) u => bindR (rdEnts n [] u) (fun (es : List EntP) u => okMsg (.ok ((⟨k, f, d, t, v1x, v2x, v3x, es, 0, 0, noConf, [], false, 0, ↑x_ctx⟩ : Msg), u)))) g3) := c9
  clear c9 hv3 hs3
  go_wp2_with fail
  refine K.out.mono ?_
  rintro e w3 ⟨rfl, hr, hg⟩
  have A3 := Lib.hid (H2.out.read hr hg)
  have B3 := Lib.hid (HF2.out.up (Up.ofGrown hg (Nat.lt_of_lt_of_le H2.out.hR (Nat.le_succ_of_le H2.out.hP))) (Nat.le_refl _))
  have c0 := cell_n A3.out.loc 6 (v := .int .i64 0) rfl
  have f0 := free_n A3.out.loc 6
  have H3 : Hid (It wb (w3.setCell ⟨P, 6, none⟩ (vNat v3x)) R P 29 (rowMsg (⟨k, f, d, t, v1x, v2x, v3x, [], 0, 0, noConf, [], false, 0, 0⟩ : Msg) (.slice none 0 0) (.slice none 0 0) (.slice none 0 0) (.slice none 0 0)) g3) := A3.out.put 6 _
  have HF3 : Hid (MsgF (P + 1) (w3.setCell ⟨P, 6, none⟩ (vNat v3x)) (.slice none 0 0) (.slice none 0 0) (.slice none 0 0) (.slice none 0 0) (⟨k, f, d, t, v1x, v2x, v3x, [], 0, 0, noConf, [], false, 0, 0⟩ : Msg)) := ⟨(B3.out.up (Up.setCell (P + 1) w3 (a := ⟨P, 6, none⟩) (Nat.lt_succ_self P) (vNat v3x)) (Nat.le_refl _)).e, (B3.out.up (Up.setCell (P + 1) w3 (a := ⟨P, 6, none⟩) (Nat.lt_succ_self P) (vNat v3x)) (Nat.le_refl _)).c⟩
  clear hr hg K
  dsimp only
  have K := Lib.hid (number_rs H3.out.rs)
  have c9 := Cps.bind 0 rdNum_err' C3.out
  obtain ⟨v4x, hv4⟩ := hide (stepV 0 rdNum g3)
  obtain ⟨g4, hs4⟩ := hide (stepS rdNum g3)
  rw [hv4.out, hs4.out] at K c9
  have C4 : Hid (Cps res (fun u => bindR (rdUpTo 8 u) fun (n : Nat) u => bindR (rdEnts n [] u) (fun (es : List EntP) u => okMsg (.ok ((⟨k, f, d, t, v1x, v2x, v3x, es, 0, 0, noConf, [], false, 0, v4x⟩ : Msg), u)))) g4) := c9
  clear c9 hv4 hs4
  go_wp2_with fail
  refine K.out.mono ?_
  rintro e w4 ⟨rfl, hr, hg⟩
  have A4 := Lib.hid (H3.out.read hr hg)
  have B4 := Lib.hid (HF3.out.up (Up.ofGrown hg (Nat.lt_of_lt_of_le H3.out.hR (Nat.le_succ_of_le H3.out.hP))) (Nat.le_refl _))
  have c0 := cell_n A4.out.loc 16 (v := .int .i64 0) rfl
  have f0 := free_n A4.out.loc 16
  have H4 : Hid (It wb (w4.setCell ⟨P, 16, none⟩ (vNat v4x)) R P 29 (rowMsg (⟨k, f, d, t, v1x, v2x, v3x, [], 0, 0, noConf, [], false, 0, v4x⟩ : Msg) (.slice none 0 0) (.slice none 0 0) (.slice none 0 0) (.slice none 0 0)) g4) := A4.out.put 16 _
  have HF4 : Hid (MsgF (P + 1) (w4.setCell ⟨P, 16, none⟩ (vNat v4x)) (.slice none 0 0) (.slice none 0 0) (.slice none 0 0) (.slice none 0 0) (⟨k, f, d, t, v1x, v2x, v3x, [], 0, 0, noConf, [], false, 0, v4x⟩ : Msg)) := ⟨(B4.out.up (Up.setCell (P + 1) w4 (a := ⟨P, 16, none⟩) (Nat.lt_succ_self P) (vNat v4x)) (Nat.le_refl _)).e, (B4.out.up (Up.setCell (P + 1) w4 (a := ⟨P, 16, none⟩) (Nat.lt_succ_self P) (vNat v4x)) (Nat.le_refl _)).c⟩
  clear hr hg K
  dsimp only
  have K := Lib.hid (upTo_rs 8 H4.out.rs)
  have c9 := Cps.bind 0 (fun _ _ => rdUpTo_err) C4.out
  have hn8 := stepV_upTo_le 8 g4
  obtain ⟨n, hn⟩ := hide (stepV 0 (rdUpTo 8) g4)
  obtain ⟨g5, hs5⟩ := hide (stepS (rdUpTo 8) g4)
  rw [hn.out, hs5.out] at K c9
  rw [hn.out] at hn8
  have C5 : Hid (Cps res (fun u => bindR (rdEnts n [] u) (fun (es : List EntP) u => okMsg (.ok ((⟨k, f, d, t, v1x, v2x, v3x, es, 0, 0, noConf, [], false, 0, v4x⟩ : Msg), u)))) g5) := c9
  clear c9 hn hs5
  go_wp2_with fail
  refine K.out.mono ?_
  rintro e w5 ⟨rfl, hr, hg⟩
  have H5 := Lib.hid (H4.out.read hr hg)
  clear hr hg K c0 f0
  dsimp only
  have O5 : Hid (w5.ownsRow (P + 1) 40 4 (.slice none 0 0) ([] : List EntP).length (([] : List EntP).flatMap rowE)) := World.ownsRow_nil _ _ _ _
  go_wp2_with fail
  go_loopw [7] (fun c7 wi => ∃ (i : Nat) (acc : List EntP) (τ : St) (ev : Value), c7 = .int .i64 (i : Int) ∧ i ≤ n ∧ acc.length ≤ i ∧ Hid (It wb wi R P 29 (rowMsg (⟨k, f, d, t, v1x, v2x, v3x, acc, 0, 0, noConf, [], false, 0, v4x⟩ : Msg) ev (.slice none 0 0) (.slice none 0 0) (.slice none 0 0)) τ) ∧ Hid (wi.ownsRow (P + 1) 40 4 ev acc.length (acc.flatMap rowE)) ∧ Hid (Cps res (fun u => bindR (rdEnts (n - i) acc u) (fun (es : List EntP) u => okMsg (.ok ((⟨k, f, d, t, v1x, v2x, v3x, es, 0, 0, noConf, [], false, 0, v4x⟩ : Msg), u)))) τ)) (fun i _ => n - (intOf i).toNat)
  case atStart => exact ⟨0, [], g5, .slice none 0 0, rfl, Nat.zero_le _, Nat.le_refl _, H5, O5, C5⟩
  case round =>
    rename_i K1 hK1
    obtain ⟨i, acc, τ, ev, rfl, hi, hacc, HI, HO, HCi⟩ := hrel
    obtain ⟨V0, hV0⟩ : ∃ V, V = wr := ⟨_, rfl⟩
    subst hV0
    have hP := HI.out.hP
    have hR := HI.out.hR
    obtain ⟨ea, ec, rfl⟩ := owns_slice HO.out
    have HFx : Hid (MsgF wb.heap.size V0 (.slice ea acc.length ec) (.slice none 0 0) (.slice none 0 0) (.slice none 0 0) (⟨k, f, d, t, v1x, v2x, v3x, acc, 0, 0, noConf, [], false, 0, v4x⟩ : Msg)) := ⟨Sl.weak (Plain.good _) (OwnE.ents HO.out) (fun k hk _ => by omega), ⟨IntsF.nil _ _, IntsF.nil _ _, IntsF.nil _ _⟩⟩
    by_cases hin : i < n
    · have t0 : decide (i < n) = true := decide_eq_true hin
      have t0b : decide ((i : Int) < (n : Int)) = true := decide_eq_true (by omega)
      cases τ with
      | error z =>
        have hz := HI.out.rs.2
        have b1 := two_cell1 HI.out.rs.1
        have z1 : (z == 0) = false := beq_eq_false_iff_ne.2 hz
        have HCx : Hid (Cps res (fun u => okMsg (.ok ((⟨k, f, d, t, v1x, v2x, v3x, acc, 0, 0, noConf, [], false, 0, v4x⟩ : Msg), u))) (.error z)) := HCi.out.err
        clear hz hP hR hin hacc hi
        go_upto_if 68 with (fail)
        iterate 40 (first | done | (refine hK1 _ _ ?_; exact msgG_end w wb B R P hBP hBw hBr HW HBk res post Hp (.error z) (⟨k, f, d, t, v1x, v2x, v3x, acc, 0, 0, noConf, [], false, 0, v4x⟩ : Msg) (.slice ea acc.length ec) (.slice none 0 0) (.slice none 0 0) (.slice none 0 0) V0 HI HFx HCx) | exact msgG_end w wb B R P hBP hBw hBr HW HBk res post Hp (.error z) (⟨k, f, d, t, v1x, v2x, v3x, acc, 0, 0, noConf, [], false, 0, v4x⟩ : Msg) (.slice ea acc.length ec) (.slice none 0 0) (.slice none 0 0) (.slice none 0 0) V0 HI HFx HCx | go_step)
      | ok u =>
        have b1 := two_cell1 HI.out.rs.1
        obtain ⟨r, hr⟩ : ∃ r, n - i = r + 1 := ⟨n - i - 1, by omega⟩
        have hri : n - (i + 1) = r := by omega
        have c9 : Cps res (fun u => bindR (rdEnt u) fun (e9 : Ent) t9 => bindR (rdEnts (n - (i + 1)) (acc ++ [entOf e9]) t9) (fun (es : List EntP) u => okMsg (.ok ((⟨k, f, d, t, v1x, v2x, v3x, es, 0, 0, noConf, [], false, 0, v4x⟩ : Msg), u)))) (.ok u) := by
          refine HCi.out.of (fun u => ?_)
          rw [hr, rdEnts_b, bindR_assoc, hri]
        have c9 := Cps.meth entS_error entS_same c9
        have K := Lib.hid (entry_rs HI.out.rs)
        obtain ⟨x, hx⟩ := hide (entS (.ok u)).1
        obtain ⟨g6, hs6⟩ := hide (entS (.ok u)).2
        rw [hx.out, hs6.out] at K c9
        have C6 : Hid (Cps res (fun u => bindR (rdEnts (n - (i + 1)) (acc ++ [entOf x]) u) (fun (es : List EntP) u => okMsg (.ok ((⟨k, f, d, t, v1x, v2x, v3x, es, 0, 0, noConf, [], false, 0, v4x⟩ : Msg), u)))) g6) := c9
        have hi2 : i + 1 ≤ n := hin
        have hi9 : i < 9 := by omega
        have Hacc := Lib.hid (show acc.length ≤ 8 by omega)
        have Hacc2 : Hid ((acc ++ [entOf x]).length ≤ i + 1) := by show _ ≤ _; rw [List.length_append]; simp; omega
        clear c9 hx hs6 hr hri
        go_wp2_with fail
        refine K.out.mono ?_
        rintro e w6 ⟨rfl, hr, hg⟩
        have I6 := HI.out.read hr hg
        have O6 := HO.out.kept hg (.inr (fun e => own_other HO.out (b := R) (by omega) e.symm))
        obtain ⟨w7, hw7⟩ := hide (w6.alloc (.cells #[.int .i64 (x.index : Int), .int .i64 (x.term : Int), .int .i64 (x.kind : Int), str x.data] 40))
        have hb7 : Below w6.heap.size w6 w7 := by rw [← hw7.out]; exact (Below.refl _ _).alloc (Nat.le_refl _) _
        have hc7 : w7.heap[w6.heap.size]? = some (.cells #[.int .i64 (x.index : Int), .int .i64 (x.term : Int), .int .i64 (x.kind : Int), str x.data] 40 (0, 0)) := by rw [← hw7.out]; exact hp_at _ _ rfl
        have I7 := Lib.hid (I6.pass hb7)
        have O7 := Lib.hid (own_below O6 hb7)
        obtain ⟨C, hC⟩ := hide w6.heap.size
        rw [hC.out] at hc7
        have d0 := cell_n hc7 0 (v := .int .i64 (x.index : Int)) rfl
        have d1 := cell_n hc7 1 (v := .int .i64 (x.term : Int)) rfl
        have d2 := cell_n hc7 2 (v := .int .i64 (x.kind : Int)) rfl
        have d3 := cell_n hc7 3 (v := str x.data) rfl
        have a7 := cell_n I7.out.loc 7 (v := .slice ea acc.length ec) rfl
        have HPs : Hid (P + 1 ≤ w7.heap.size) := lt_of_block I7.out.loc
        clear hr hg K b1 hb7 hc7 I6 O6 hP hR
        dsimp only
        go_upto_region 25 with fail
        rw [hw7.out, hC.out]
        go_wp2_with (at_builtin; refine wpList_push rfl _ _ 22 rfl (P + 1) 40 _ 4 40 Try.underlying22 info_ent rfl (by decide) _ _ _ rfl O7.out _ rfl rfl (by intro u hu; simp at hu; rcases hu with rfl | rfl | rfl | rfl <;> rfl) (by have := Hacc.out; unfold maxLen; omega) (by have := Hacc.out; omega) HPs.out ?_)
        intro v8 w8 ho8 hg8
        obtain ⟨a8, n8, rfl⟩ := owns_slice ho8
        have I8 := Lib.hid (I7.out.row O7.out (Nat.lt_succ_self P) hg8)
        have O8 : Hid (w8.ownsRow (P + 1) 40 4 (.slice a8 (acc.length + 1) n8) (acc ++ [entOf x]).length ((acc ++ [entOf x]).flatMap rowE)) := by
          show World.ownsRow _ _ _ _ _ _ _
          rw [List.length_append, List.flatMap_append]; exact ho8
        have c7 := cell_n I8.out.loc 7 (v := .slice ea acc.length ec) rfl
        have f7 := free_n I8.out.loc 7
        have I9 : Hid (It wb (w8.setCell ⟨P, 7, none⟩ (.slice a8 (acc.length + 1) n8)) R P 29 (rowMsg (⟨k, f, d, t, v1x, v2x, v3x, (acc ++ [entOf x]), 0, 0, noConf, [], false, 0, v4x⟩ : Msg) (.slice a8 (acc.length + 1) n8) (.slice none 0 0) (.slice none 0 0) (.slice none 0 0)) g6) := I8.out.put 7 _
        have O9 : Hid ((w8.setCell ⟨P, 7, none⟩ (.slice a8 (acc.length + 1) n8)).ownsRow (P + 1) 40 4 (.slice a8 (acc.length + 1) n8) (acc ++ [entOf x]).length ((acc ++ [entOf x]).flatMap rowE)) := own_up O8.out (Up.setCell (P + 1) w8 (a := ⟨P, 7, none⟩) (Nat.lt_succ_self P) _) (Nat.le_refl _)
        clear ho8 hg8 d0 d1 d2 d3 a7
        go_wp2_with fail
        go_roundw
        case rel => exact ⟨i + 1, acc ++ [entOf x], g6, _, by go_num, hi2, Hacc2.out, I9, O9, C6⟩
        case measure => simp [intOf]; omega
    · have hin2 : i = n := by omega
      have t0 : decide (i < n) = false := decide_eq_false hin
      have t0b : decide ((i : Int) < (n : Int)) = false := decide_eq_false (by omega)
      have HCx : Hid (Cps res (fun u => okMsg (.ok ((⟨k, f, d, t, v1x, v2x, v3x, acc, 0, 0, noConf, [], false, 0, v4x⟩ : Msg), u))) τ) := HCi.out.of (fun u => by rw [hin2, Nat.sub_self]; rfl)
      clear hin hin2 hacc hi hP hR
      go_upto_if 68 with (fail)
      iterate 40 (first | done | (refine hK1 _ _ ?_; exact msgG_end w wb B R P hBP hBw hBr HW HBk res post Hp τ (⟨k, f, d, t, v1x, v2x, v3x, acc, 0, 0, noConf, [], false, 0, v4x⟩ : Msg) (.slice ea acc.length ec) (.slice none 0 0) (.slice none 0 0) (.slice none 0 0) V0 HI HFx HCx) | exact msgG_end w wb B R P hBP hBw hBr HW HBk res post Hp τ (⟨k, f, d, t, v1x, v2x, v3x, acc, 0, 0, noConf, [], false, 0, v4x⟩ : Msg) (.slice ea acc.length ec) (.slice none 0 0) (.slice none 0 0) (.slice none 0 0) V0 HI HFx HCx | go_step)
end Go.Proofs.Ytkcllpbbjlbfaaa

namespace Go.Proofs.Ytkcllpbbjlbfaaa
open Go.RowKit Wm Mm Lg
set_option linter.unusedVariables false
set_option linter.unusedSimpArgs false

set_option maxHeartbeats 4000000 in
set_option maxRecDepth 100000 in
theorem ref_getMessage (s : List UInt8) (w : World) (hs : s.length ≤ 9223372036854775807) :
    Calls Try.prog 8 #[str s] w (GotMsg w (full (rdMsg s))) := by
  obtain ⟨post, HP⟩ := hide (GotMsg w (full (rdMsg s)))
  rw [HP.out]
  obtain ⟨res, hres⟩ := hide (rdMsg s)
  have Hp : Hid (∀ e w', GotMsg w (full res) e w' → post e w') := by
    show ∀ e w', _ → _
    intro e w' h
    rw [← HP.out, hres.out]; exact h
  have C0 : Hid (Cps res (fun u => bindR (rdNum u) fun (y0 : Nat) u => bindR (rdNum u) fun (y1 : Nat) u => bindR (rdNum u) fun (y2 : Nat) u => bindR (rdNum u) fun (y3 : Nat) u => okMsg (rdTail y0 y1 y2 y3 u)) (.ok s)) := by
    show _ = res
    rw [← hres.out]; exact (rdMsg_b s).symm
  obtain ⟨W1, hW1⟩ := hide (w.alloc (.cells zeroMsg.toArray 29))
  obtain ⟨wb, hwb⟩ := hide (W1.alloc (.cells #[str s, .int .i64 0] 65))
  obtain ⟨W3, hW3⟩ := hide (wb.alloc (.cells zeroMsg.toArray 29))
  have s1 : W1.heap.size = w.heap.size + 1 := by rw [← hW1.out]; simp
  have s2 : wb.heap.size = w.heap.size + 2 := by rw [← hwb.out]; simp; omega
  have hb1 : Below w.heap.size w wb := by
    rw [← hwb.out, ← hW1.out]; exact ((Below.refl _ _).alloc (Nat.le_refl _) _).alloc (by simp) _
  have hB : wb.heap[w.heap.size]? = some (.cells zeroMsg.toArray 29 (0, 0)) := by
    rw [← hwb.out]; refine (hp_past _ _ (by omega)).trans ?_
    rw [← hW1.out]; exact hp_at _ _ rfl
  have hR : wb.heap[w.heap.size + 1]? = some (.cells #[str s, .int .i64 0] 65 (0, 0)) := by
    rw [← hwb.out]; exact hp_at _ _ (by omega)
  have HW : Hid (∀ W, wb.grownBy W (some (w.heap.size + 1)) → Below w.heap.size w W) := fun W h => hb1.trans (grown_below h (by omega) (by omega))
  have HBk : Hid (∀ W, wb.grownBy W (some (w.heap.size + 1)) → W.heap[w.heap.size]? = some (.cells zeroMsg.toArray 29 (0, 0))) := fun W h => (h.block _ (by omega) (by simp)).trans hB
  have H : Hid (It wb W3 (w.heap.size + 1) (w.heap.size + 2) 29 (rowMsg (⟨0, 0, 0, 0, 0, 0, 0, [], 0, 0, noConf, [], false, 0, 0⟩ : Msg) (.slice none 0 0) (.slice none 0 0) (.slice none 0 0) (.slice none 0 0)) (.ok s)) := by
    have h := It.lay (wr := wb) (W := wb) (R := w.heap.size + 1) (T := 29) (xs := zeroMsg) (σ := .ok s) ⟨rfl, rfl, rfl, Nat.le_refl _, fun _ _ _ => rfl⟩ ⟨hR, hs⟩ (by omega)
    rw [hW3.out, s2] at h
    exact h
  have hBP : w.heap.size < w.heap.size + 2 := by omega
  have hBr : w.heap.size < wb.heap.size := by omega
  have e1 : W1.heap.size = w.heap.size + 1 := s1
  have e2 : wb.heap.size = w.heap.size + 2 := s2
  obtain ⟨B, hBB⟩ := hide w.heap.size
  obtain ⟨R, hRR⟩ := hide (w.heap.size + 1)
  obtain ⟨P, hPP⟩ := hide (w.heap.size + 2)
  rw [hRR.out] at HW HBk H e1
  rw [hPP.out] at H hBP e2
  rw [hBB.out] at HBk hBP hBr
  have hBw : w.heap.size ≤ B := by rw [← hBB.out]; exact Nat.le_refl _
  have HF : Hid (MsgF (P + 1) W3 (.slice none 0 0) (.slice none 0 0) (.slice none 0 0) (.slice none 0 0) (⟨0, 0, 0, 0, 0, 0, 0, [], 0, 0, noConf, [], false, 0, 0⟩ : Msg)) := ⟨ents_nil _ _, ⟨IntsF.nil _ _, IntsF.nil _ _, IntsF.nil _ _⟩⟩
  have HWE := Lib.hid (And.intro e1 e2)
  clear hB hR hb1 s1 s2 e1 e2
  go_enter Try.func8, Try.ntmps8
  go_upto_region 1 with fail
  rw [hW1.out, hBB.out]
  go_upto_region 2 with fail
  rw [hwb.out, HWE.out.1]
  go_upto_region 3 with fail
  rw [hW3.out, HWE.out.2]
  have K := Lib.hid (number_rs H.out.rs)
  have c9 := Cps.bind 0 rdNum_err' C0.out
  obtain ⟨v1x, hv1⟩ := hide (stepV 0 rdNum (.ok s))
  obtain ⟨g1, hs1⟩ := hide (stepS rdNum (.ok s))
  rw [hv1.out, hs1.out] at K c9
  have C1 : Hid (Cps res (fun u => bindR (rdNum u) fun (y1 : Nat) u => bindR (rdNum u) fun (y2 : Nat) u => bindR (rdNum u) fun (y3 : Nat) u => okMsg (rdTail v1x y1 y2 y3 u)) g1) := c9
  clear c9 hv1 hs1
  go_wp2_with fail
  refine K.out.mono ?_
  rintro e w1 ⟨rfl, hr, hg⟩
  have A1 := Lib.hid (H.out.read hr hg)
  have B1 := Lib.hid (HF.out.up (Up.ofGrown hg (Nat.lt_of_lt_of_le H.out.hR (Nat.le_succ_of_le H.out.hP))) (Nat.le_refl _))
  have c0 := cell_n A1.out.loc 0 (v := .int .i64 0) rfl
  have f0 := free_n A1.out.loc 0
  have H1 : Hid (It wb (w1.setCell ⟨P, 0, none⟩ (vNat v1x)) R P 29 (rowMsg (⟨v1x, 0, 0, 0, 0, 0, 0, [], 0, 0, noConf, [], false, 0, 0⟩ : Msg) (.slice none 0 0) (.slice none 0 0) (.slice none 0 0) (.slice none 0 0)) g1) := A1.out.put 0 _
  have HF1 : Hid (MsgF (P + 1) (w1.setCell ⟨P, 0, none⟩ (vNat v1x)) (.slice none 0 0) (.slice none 0 0) (.slice none 0 0) (.slice none 0 0) (⟨v1x, 0, 0, 0, 0, 0, 0, [], 0, 0, noConf, [], false, 0, 0⟩ : Msg)) := ⟨(B1.out.up (Up.setCell (P + 1) w1 (a := ⟨P, 0, none⟩) (Nat.lt_succ_self P) (vNat v1x)) (Nat.le_refl _)).e, (B1.out.up (Up.setCell (P + 1) w1 (a := ⟨P, 0, none⟩) (Nat.lt_succ_self P) (vNat v1x)) (Nat.le_refl _)).c⟩
  clear hr hg K
  dsimp only
  have K := Lib.hid (number_rs H1.out.rs)
  have c9 := Cps.bind 0 rdNum_err' C1.out
  obtain ⟨v2x, hv2⟩ := hide (stepV 0 rdNum g1)
  obtain ⟨g2, hs2⟩ := hide (stepS rdNum g1)
  rw [hv2.out, hs2.out] at K c9
  have C2 : Hid (Cps res (fun u => bindR (rdNum u) fun (y2 : Nat) u => bindR (rdNum u) fun (y3 : Nat) u => okMsg (rdTail v1x v2x y2 y3 u)) g2) := c9
  clear c9 hv2 hs2
  go_wp2_with fail
  refine K.out.mono ?_
  rintro e w2 ⟨rfl, hr, hg⟩
  have A2 := Lib.hid (H1.out.read hr hg)
  have B2 := Lib.hid (HF1.out.up (Up.ofGrown hg (Nat.lt_of_lt_of_le H1.out.hR (Nat.le_succ_of_le H1.out.hP))) (Nat.le_refl _))
  have c0 := cell_n A2.out.loc 1 (v := .int .i64 0) rfl
  have f0 := free_n A2.out.loc 1
  have H2 : Hid (It wb (w2.setCell ⟨P, 1, none⟩ (vNat v2x)) R P 29 (rowMsg (⟨v1x, v2x, 0, 0, 0, 0, 0, [], 0, 0, noConf, [], false, 0, 0⟩ : Msg) (.slice none 0 0) (.slice none 0 0) (.slice none 0 0) (.slice none 0 0)) g2) := A2.out.put 1 _
  have HF2 : Hid (MsgF (P + 1) (w2.setCell ⟨P, 1, none⟩ (vNat v2x)) (.slice none 0 0) (.slice none 0 0) (.slice none 0 0) (.slice none 0 0) (⟨v1x, v2x, 0, 0, 0, 0, 0, [], 0, 0, noConf, [], false, 0, 0⟩ : Msg)) := ⟨(B2.out.up (Up.setCell (P + 1) w2 (a := ⟨P, 1, none⟩) (Nat.lt_succ_self P) (vNat v2x)) (Nat.le_refl _)).e, (B2.out.up (Up.setCell (P + 1) w2 (a := ⟨P, 1, none⟩) (Nat.lt_succ_self P) (vNat v2x)) (Nat.le_refl _)).c⟩
  clear hr hg K
  dsimp only
  have K := Lib.hid (number_rs H2.out.rs)
  have c9 := Cps.bind 0 rdNum_err' C2.out
  obtain ⟨v3x, hv3⟩ := hide (stepV 0 rdNum g2)
  obtain ⟨g3, hs3⟩ := hide (stepS rdNum g2)
  rw [hv3.out, hs3.out] at K c9
  have C3 : Hid (Cps res (fun u => bindR (rdNum u) fun (y3 : Nat) u => okMsg (rdTail v1x v2x v3x y3 u)) g3) := c9
  clear c9 hv3 hs3
  go_wp2_with fail
  refine K.out.mono ?_
  rintro e w3 ⟨rfl, hr, hg⟩
  have A3 := Lib.hid (H2.out.read hr hg)
  have B3 := Lib.hid (HF2.out.up (Up.ofGrown hg (Nat.lt_of_lt_of_le H2.out.hR (Nat.le_succ_of_le H2.out.hP))) (Nat.le_refl _))
  have c0 := cell_n A3.out.loc 2 (v := .int .i64 0) rfl
  have f0 := free_n A3.out.loc 2
  have H3 : Hid (It wb (w3.setCell ⟨P, 2, none⟩ (vNat v3x)) R P 29 (rowMsg (⟨v1x, v2x, v3x, 0, 0, 0, 0, [], 0, 0, noConf, [], false, 0, 0⟩ : Msg) (.slice none 0 0) (.slice none 0 0) (.slice none 0 0) (.slice none 0 0)) g3) := A3.out.put 2 _
  have HF3 : Hid (MsgF (P + 1) (w3.setCell ⟨P, 2, none⟩ (vNat v3x)) (.slice none 0 0) (.slice none 0 0) (.slice none 0 0) (.slice none 0 0) (⟨v1x, v2x, v3x, 0, 0, 0, 0, [], 0, 0, noConf, [], false, 0, 0⟩ : Msg)) := ⟨(B3.out.up (Up.setCell (P + 1) w3 (a := ⟨P, 2, none⟩) (Nat.lt_succ_self P) (vNat v3x)) (Nat.le_refl _)).e, (B3.out.up (Up.setCell (P + 1) w3 (a := ⟨P, 2, none⟩) (Nat.lt_succ_self P) (vNat v3x)) (Nat.le_refl _)).c⟩
  clear hr hg K
  dsimp only
  have K := Lib.hid (number_rs H3.out.rs)
  have c9 := Cps.bind 0 rdNum_err' C3.out
  obtain ⟨v4x, hv4⟩ := hide (stepV 0 rdNum g3)
  obtain ⟨g4, hs4⟩ := hide (stepS rdNum g3)
  rw [hv4.out, hs4.out] at K c9
  have C4 : Hid (Cps res (fun u => okMsg (rdTail v1x v2x v3x v4x u)) g4) := c9
  clear c9 hv4 hs4
  go_wp2_with fail
  refine K.out.mono ?_
  rintro e w4 ⟨rfl, hr, hg⟩
  have A4 := Lib.hid (H3.out.read hr hg)
  have B4 := Lib.hid (HF3.out.up (Up.ofGrown hg (Nat.lt_of_lt_of_le H3.out.hR (Nat.le_succ_of_le H3.out.hP))) (Nat.le_refl _))
  have c0 := cell_n A4.out.loc 3 (v := .int .i64 0) rfl
  have f0 := free_n A4.out.loc 3
  have H4 : Hid (It wb (w4.setCell ⟨P, 3, none⟩ (vNat v4x)) R P 29 (rowMsg (⟨v1x, v2x, v3x, v4x, 0, 0, 0, [], 0, 0, noConf, [], false, 0, 0⟩ : Msg) (.slice none 0 0) (.slice none 0 0) (.slice none 0 0) (.slice none 0 0)) g4) := A4.out.put 3 _
  have HF4 : Hid (MsgF (P + 1) (w4.setCell ⟨P, 3, none⟩ (vNat v4x)) (.slice none 0 0) (.slice none 0 0) (.slice none 0 0) (.slice none 0 0) (⟨v1x, v2x, v3x, v4x, 0, 0, 0, [], 0, 0, noConf, [], false, 0, 0⟩ : Msg)) := ⟨(B4.out.up (Up.setCell (P + 1) w4 (a := ⟨P, 3, none⟩) (Nat.lt_succ_self P) (vNat v4x)) (Nat.le_refl _)).e, (B4.out.up (Up.setCell (P + 1) w4 (a := ⟨P, 3, none⟩) (Nat.lt_succ_self P) (vNat v4x)) (Nat.le_refl _)).c⟩
  clear hr hg K
  dsimp only
  have hcl : (v1x = 1 ∨ v1x = 3) ∨ (v1x = 2 ∨ v1x = 4) ∨ v1x = 6 ∨ v1x = 7 ∨ v1x = 5 ∨ ¬ (1 ≤ v1x ∧ v1x ≤ 7) := by omega
  rcases hcl with hk | hk | hk | hk | hk | hk
  · iterate 24 (first | done | exact msgG_ask w wb B R P hBP hBw hBr HW HBk res post Hp g4 v1x v2x v3x v4x (w4.setCell ⟨P, 3, none⟩ (vNat v4x)) H4 C4 hk | go_step)
  · iterate 24 (first | done | exact msgG_rep w wb B R P hBP hBw hBr HW HBk res post Hp g4 v1x v2x v3x v4x (w4.setCell ⟨P, 3, none⟩ (vNat v4x)) H4 C4 hk | go_step)
  · iterate 24 (first | done | exact msgG_back w wb B R P hBP hBw hBr HW HBk res post Hp g4 v1x v2x v3x v4x (w4.setCell ⟨P, 3, none⟩ (vNat v4x)) H4 C4 hk | go_step)
  · iterate 24 (first | done | exact msgG_inst w wb B R P hBP hBw hBr HW HBk res post Hp g4 v1x v2x v3x v4x (w4.setCell ⟨P, 3, none⟩ (vNat v4x)) H4 C4 hk | go_step)
  · iterate 24 (first | done | exact msgG_app w wb B R P hBP hBw hBr HW HBk res post Hp g4 v1x v2x v3x v4x (w4.setCell ⟨P, 3, none⟩ (vNat v4x)) H4 C4 hk | go_step)
  · iterate 24 (first | done | exact msgG_none w wb B R P hBP hBw hBr HW HBk res post Hp g4 v1x v2x v3x v4x (w4.setCell ⟨P, 3, none⟩ (vNat v4x)) H4 C4 hk | go_step)
end Go.Proofs.Ytkcllpbbjlbfaaa

namespace Go.Proofs.Ytkcllpbbjlbfaaa
open Go.RowKit Wm Mm Lg
set_option linter.unusedVariables false
set_option linter.unusedSimpArgs false

theorem same_self (i t : Int) (c : Conf) (d : List UInt8) : sameSnapB i t c d i t c d = true := by
  simp [sameSnapB, sameConf]
set_option maxHeartbeats 4000000 in
theorem law_sameMessage (q : Msg) (ev x y z ev' x' y' z' : Value) (F G : Nat → Prop) (w : World) (hE : Ents F w ev q.ents) (hE' : Ents G w ev' q.ents) (hc : Config3 w x y z q.sc) (hc' : Config3 w x' y' z' q.sc) :
    Calls Try.prog 9 #[vMsg q ev x y z, vMsg q ev' x' y' z'] w fun e w' => e = .returned (.bool true) ∧ Below w.heap.size w w' := by
  obtain ⟨post, HP⟩ := hide (fun (e : Ending) (w' : World) => e = .returned (.bool true) ∧ Below w.heap.size w w')
  rw [HP.out]
  obtain ⟨ae, ce, rfl, _, _⟩ := hE.slice
  obtain ⟨be, de, rfl, _, _⟩ := hE'.slice
  obtain ⟨ax, cx, rfl, _⟩ := len_of_Ints hc.v
  obtain ⟨ay, cy, rfl, _⟩ := len_of_Ints hc.n
  obtain ⟨az, cz, rfl, _⟩ := len_of_Ints hc.l
  obtain ⟨bx, dx, rfl, _⟩ := len_of_Ints hc'.v
  obtain ⟨by_, dy, rfl, _⟩ := len_of_Ints hc'.n
  obtain ⟨bz, dz, rfl, _⟩ := len_of_Ints hc'.l
  obtain ⟨W, hW⟩ := hide ((w.alloc (.cells (rowMsg q (.slice ae q.ents.length ce) (.slice ax q.sc.v.length cx) (.slice ay q.sc.n.length cy) (.slice az q.sc.l.length cz)).toArray 29)).alloc (.cells (rowMsg q (.slice be q.ents.length de) (.slice bx q.sc.v.length dx) (.slice by_ q.sc.n.length dy) (.slice bz q.sc.l.length dz)).toArray 29))
  have hb1 : Below w.heap.size w W := by rw [← hW.out]; exact ((Below.refl _ _).alloc (Nat.le_refl _) _).alloc (by simp) _
  have hx : W.heap[w.heap.size]? = some (.cells (rowMsg q (.slice ae q.ents.length ce) (.slice ax q.sc.v.length cx) (.slice ay q.sc.n.length cy) (.slice az q.sc.l.length cz)).toArray 29 (0, 0)) := by rw [← hW.out]; exact (hp_past _ _ (by simp)).trans (hp_at _ _ rfl)
  have hy : W.heap[w.heap.size + 1]? = some (.cells (rowMsg q (.slice be q.ents.length de) (.slice bx q.sc.v.length dx) (.slice by_ q.sc.n.length dy) (.slice bz q.sc.l.length dz)).toArray 29 (0, 0)) := by rw [← hW.out]; exact hp_at _ _ (by simp)
  have HX : Hid (∀ w', Below W.heap.size W w' → w'.heap[w.heap.size]? = some (.cells (rowMsg q (.slice ae q.ents.length ce) (.slice ax q.sc.v.length cx) (.slice ay q.sc.n.length cy) (.slice az q.sc.l.length cz)).toArray 29 (0, 0)) ∧ w'.heap[w.heap.size + 1]? = some (.cells (rowMsg q (.slice be q.ents.length de) (.slice bx q.sc.v.length dx) (.slice by_ q.sc.n.length dy) (.slice bz q.sc.l.length dz)).toArray 29 (0, 0)) ∧ Below w.heap.size w w') := fun w' h => ⟨(h.block _ (lt_of_block hx)).trans hx, (h.block _ (lt_of_block hy)).trans hy, hb1.trans (h.mono hb1.size)⟩
  have HC : Hid (∀ w', Below w.heap.size w w' → Config3 w' (.slice ax q.sc.v.length cx) (.slice ay q.sc.n.length cy) (.slice az q.sc.l.length cz) q.sc ∧ Config3 w' (.slice bx q.sc.v.length dx) (.slice by_ q.sc.n.length dy) (.slice bz q.sc.l.length dz) q.sc) := fun w' h => ⟨hc.mono h, hc'.mono h⟩
  have HE : Hid (∀ w', Below w.heap.size w w' → Ents F w' (.slice ae q.ents.length ce) q.ents ∧ Ents G w' (.slice be q.ents.length de) q.ents) := fun w' h => ⟨hE.frame (Plain.good _) (Agree.below h), hE'.frame (Plain.good _) (Agree.below h)⟩
  have Hp : Hid (∀ w', Below w.heap.size w w' → post (.returned (.bool true)) w') := by
    show ∀ w', _ → _
    intro w' h; rw [← HP.out]; exact ⟨rfl, h⟩
  have H0 := Lib.hid (Below.refl W.heap.size W)
  obtain ⟨B, hB⟩ := hide w.heap.size
  rw [hB.out] at HX HC HE Hp
  have K := Lib.hid (ref_sameEntries _ _ q.ents F G W (HE.out _ (HX.out _ H0.out).2.2).1 (HE.out _ (HX.out _ H0.out).2.2).2)
  have x0 := (HX.out _ H0.out).1
  have y0 := (HX.out _ H0.out).2.1
  have a7 : W.cell? ⟨B, 7, none⟩ = some (.slice ae q.ents.length ce) := cell_n x0 7 rfl
  have b7 : W.cell? ⟨B + 1, 7, none⟩ = some (.slice be q.ents.length de) := cell_n y0 7 rfl
  clear hb1 hx hy hE hE' hc hc' x0 y0
  go_enter Try.func9, Try.ntmps9
  go_upto_region 1 with fail
  rw [hW.out, hB.out]
  go_wp2_with fail
  refine K.out.mono ?_
  rintro e w1 ⟨rfl, hb⟩
  have H1 := Lib.hid (H0.out.trans (hb.mono H0.out.size))
  clear hb K a7 b7
  dsimp only
  have K := ref_sameSnap q.si q.st (.slice ax q.sc.v.length cx) (.slice ay q.sc.n.length cy) (.slice az q.sc.l.length cz) q.sc q.sd q.si q.st (.slice bx q.sc.v.length dx) (.slice by_ q.sc.n.length dy) (.slice bz q.sc.l.length dz) q.sc q.sd w1 (HC.out _ (HX.out _ H1.out).2.2).1 (HC.out _ (HX.out _ H1.out).2.2).2
  rw [same_self] at K
  have K := Lib.hid K
  have x0 := (HX.out _ H1.out).1
  have y0 := (HX.out _ H1.out).2.1
  have a8 : w1.cell? ⟨B, 8, none⟩ = some (.int .i64 q.si) := cell_n x0 8 rfl
  have b8 : w1.cell? ⟨B + 1, 8, none⟩ = some (.int .i64 q.si) := cell_n y0 8 rfl
  have a9 : w1.cell? ⟨B, 9, none⟩ = some (.int .i64 q.st) := cell_n x0 9 rfl
  have b9 : w1.cell? ⟨B + 1, 9, none⟩ = some (.int .i64 q.st) := cell_n y0 9 rfl
  have a10 : w1.cell? ⟨B, 10, none⟩ = some ((.slice ax q.sc.v.length cx)) := cell_n x0 10 rfl
  have b10 : w1.cell? ⟨B + 1, 10, none⟩ = some ((.slice bx q.sc.v.length dx)) := cell_n y0 10 rfl
  have a11 : w1.cell? ⟨B, 11, none⟩ = some ((.slice ay q.sc.n.length cy)) := cell_n x0 11 rfl
  have b11 : w1.cell? ⟨B + 1, 11, none⟩ = some ((.slice by_ q.sc.n.length dy)) := cell_n y0 11 rfl
  have a12 : w1.cell? ⟨B, 12, none⟩ = some ((.slice az q.sc.l.length cz)) := cell_n x0 12 rfl
  have b12 : w1.cell? ⟨B + 1, 12, none⟩ = some ((.slice bz q.sc.l.length dz)) := cell_n y0 12 rfl
  have a13 : w1.cell? ⟨B, 13, none⟩ = some (str q.sd) := cell_n x0 13 rfl
  have b13 : w1.cell? ⟨B + 1, 13, none⟩ = some (str q.sd) := cell_n y0 13 rfl
  clear x0 y0
  go_wp2_with fail
  refine K.out.mono ?_
  rintro e w2 ⟨rfl, hb⟩
  have H2 := Lib.hid (H1.out.trans (hb.mono H1.out.size))
  have Hq := Lib.hid (Hp.out _ (HX.out _ H2.out).2.2)
  have x0 := (HX.out _ H2.out).1
  have y0 := (HX.out _ H2.out).2.1
  clear hb K a8 a9 a10 a11 a12 a13 b8 b9 b10 b11 b12 b13
  dsimp only
  have a0 : w2.cell? ⟨B, 0, none⟩ = some (.int .i64 q.kind) := cell_n x0 0 rfl
  have b0 : w2.cell? ⟨B + 1, 0, none⟩ = some (.int .i64 q.kind) := cell_n y0 0 rfl
  have a1 : w2.cell? ⟨B, 1, none⟩ = some (.int .i64 q.frm) := cell_n x0 1 rfl
  have b1 : w2.cell? ⟨B + 1, 1, none⟩ = some (.int .i64 q.frm) := cell_n y0 1 rfl
  have a2 : w2.cell? ⟨B, 2, none⟩ = some (.int .i64 q.dst) := cell_n x0 2 rfl
  have b2 : w2.cell? ⟨B + 1, 2, none⟩ = some (.int .i64 q.dst) := cell_n y0 2 rfl
  have a3 : w2.cell? ⟨B, 3, none⟩ = some (.int .i64 q.term) := cell_n x0 3 rfl
  have b3 : w2.cell? ⟨B + 1, 3, none⟩ = some (.int .i64 q.term) := cell_n y0 3 rfl
  have a4 : w2.cell? ⟨B, 4, none⟩ = some (.int .i64 q.index) := cell_n x0 4 rfl
  have b4 : w2.cell? ⟨B + 1, 4, none⟩ = some (.int .i64 q.index) := cell_n y0 4 rfl
  have a5 : w2.cell? ⟨B, 5, none⟩ = some (.int .i64 q.logTerm) := cell_n x0 5 rfl
  have b5 : w2.cell? ⟨B + 1, 5, none⟩ = some (.int .i64 q.logTerm) := cell_n y0 5 rfl
  have a6 : w2.cell? ⟨B, 6, none⟩ = some (.int .i64 q.commit) := cell_n x0 6 rfl
  have b6 : w2.cell? ⟨B + 1, 6, none⟩ = some (.int .i64 q.commit) := cell_n y0 6 rfl
  have a14 : w2.cell? ⟨B, 14, none⟩ = some (.bool q.rej) := cell_n x0 14 rfl
  have b14 : w2.cell? ⟨B + 1, 14, none⟩ = some (.bool q.rej) := cell_n y0 14 rfl
  have a15 : w2.cell? ⟨B, 15, none⟩ = some (.int .i64 q.hint) := cell_n x0 15 rfl
  have b15 : w2.cell? ⟨B + 1, 15, none⟩ = some (.int .i64 q.hint) := cell_n y0 15 rfl
  have a16 : w2.cell? ⟨B, 16, none⟩ = some (.int .i64 q.ctx) := cell_n x0 16 rfl
  have b16 : w2.cell? ⟨B + 1, 16, none⟩ = some (.int .i64 q.ctx) := cell_n y0 16 rfl
  clear x0 y0
  go_wp2_with fail
  first | exact Hq.out | (go_ret; exact Hq.out)
def resMZ (r : Except Int Msg) : Msg × Int := match r with
  | .ok q => (q, 0)
  | .error z => ((⟨0, 0, 0, 0, 0, 0, 0, [], 0, 0, noConf, [], false, 0, 0⟩ : Msg), z)
theorem got_any {w : World} {r : Except Int Msg} {e : Ending} {w' : World} (h : GotMsg w r e w') : ∃ ev x y z, e = .returned (.tuple #[vMsg (resMZ r).1 ev x y z, .int .i64 (resMZ r).2]) ∧ MsgF w.heap.size w' ev x y z (resMZ r).1 ∧ Below w.heap.size w w' := by
  cases r with
  | ok q => exact h
  | error z => exact ⟨_, _, _, _, h.1, ⟨ents_nil _ _, ⟨IntsF.nil _ _, IntsF.nil _ _, IntsF.nil _ _⟩⟩, h.2⟩
theorem put_at {w : World} {b i : Nat} {xs : List Value} {tt : TypeId} (h : w.heap[b]? = some (.cells xs.toArray tt (0, 0))) (v : Value) : (w.setCell ⟨b, i, none⟩ v).heap[b]? = some (.cells (xs.set i v).toArray tt (0, 0)) := by
  rw [heap_setCell, if_pos rfl, h]
  simp [storeIn]
theorem known_put : putMsgB (⟨3, 1, 2, 3, 0, 0, 0, [], 0, 0, noConf, [], false, 0, 0⟩ : Msg) = [3, 1, 2, 3, 0, 0] ∧ putMsgE (⟨3, 1, 2, 3, 0, 0, 0, [], 0, 0, noConf, [], false, 0, 0⟩ : Msg) = 0 := by decide +kernel
set_option maxHeartbeats 8000000 in
set_option maxRecDepth 100000 in
theorem law_wireMessages (m : Msg) (ev x y z : Value) (s : List UInt8) (F : Nat → Prop) (w : World) (hE : Ents F w ev m.ents) (hc : Config3 w x y z m.sc) (hn : m.ents.length ≤ 3518437208800) (hs : s.length ≤ 9223372036854775807) :
    Calls Try.prog 3 #[vMsg m ev x y z, str s] w fun e w' => e = .returned (.bool true) ∧ Below w.heap.size w w' := by
  obtain ⟨post, HP⟩ := hide (fun (e : Ending) (w' : World) => e = .returned (.bool true) ∧ Below w.heap.size w w')
  rw [HP.out]
  obtain ⟨ae, ce, rfl, _, _⟩ := hE.slice
  obtain ⟨ax, cx, rfl, _⟩ := len_of_Ints hc.v
  obtain ⟨ay, cy, rfl, _⟩ := len_of_Ints hc.n
  obtain ⟨az, cz, rfl, _⟩ := len_of_Ints hc.l
  obtain ⟨W1, hW1⟩ := hide (w.alloc (.cells (rowMsg m (.slice ae m.ents.length ce) (.slice ax m.sc.v.length cx) (.slice ay m.sc.n.length cy) (.slice az m.sc.l.length cz)).toArray 29))
  obtain ⟨W2, hW2⟩ := hide (W1.alloc (.cells (rowMsg m (.slice ae m.ents.length ce) (.slice ax m.sc.v.length cx) (.slice ay m.sc.n.length cy) (.slice az m.sc.l.length cz)).toArray 29))
  have s1 : W1.heap.size = w.heap.size + 1 := by rw [← hW1.out]; simp
  have hb1 : Below w.heap.size w W1 := by rw [← hW1.out]; exact (Below.refl _ _).alloc (Nat.le_refl _) _
  have hb2 : Below W1.heap.size W1 W2 := by rw [← hW2.out]; exact (Below.refl _ _).alloc (Nat.le_refl _) _
  have hx1 : W1.heap[w.heap.size]? = some (.cells (rowMsg m (.slice ae m.ents.length ce) (.slice ax m.sc.v.length cx) (.slice ay m.sc.n.length cy) (.slice az m.sc.l.length cz)).toArray 29 (0, 0)) := by rw [← hW1.out]; exact hp_at _ _ rfl
  have hx2 : W2.heap[W1.heap.size]? = some (.cells (rowMsg m (.slice ae m.ents.length ce) (.slice ax m.sc.v.length cx) (.slice ay m.sc.n.length cy) (.slice az m.sc.l.length cz)).toArray 29 (0, 0)) := by rw [← hW2.out]; exact hp_at _ _ rfl
  have HA : Hid (∀ w', Below W1.heap.size W1 w' → w'.heap[w.heap.size]? = some (.cells (rowMsg m (.slice ae m.ents.length ce) (.slice ax m.sc.v.length cx) (.slice ay m.sc.n.length cy) (.slice az m.sc.l.length cz)).toArray 29 (0, 0)) ∧ Below w.heap.size w w') := fun w' h => ⟨(h.block _ (lt_of_block hx1)).trans hx1, hb1.trans (h.mono hb1.size)⟩
  have HE : Hid (∀ w', Below w.heap.size w w' → Ents F w' (.slice ae m.ents.length ce) m.ents ∧ Config3 w' (.slice ax m.sc.v.length cx) (.slice ay m.sc.n.length cy) (.slice az m.sc.l.length cz) m.sc) := fun w' h => ⟨hE.frame (Plain.good _) (Agree.below h), hc.mono h⟩
  have Hp : Hid (∀ w', Below w.heap.size w w' → post (.returned (.bool true)) w') := by
    show ∀ w', _ → _
    intro w' h; rw [← HP.out]; exact ⟨rfl, h⟩
  have H2 : Hid (Below W1.heap.size W1 W2) := hb2
  have H10 : Hid (Below W1.heap.size W1 W1) := Below.refl _ _
  have Hx2 := Lib.hid hx2
  obtain ⟨B, hB⟩ := hide w.heap.size
  obtain ⟨X, hX⟩ := hide W1.heap.size
  rw [hX.out] at Hx2
  rw [hB.out] at HA HE Hp
  have K := Lib.hid (law_entries' _ m.ents F W2 (HE.out _ (HA.out _ H2.out).2).1 hn)
  clear hE hc hb1 hb2 hx1 hx2 s1
  go_enter Try.func3, Try.ntmps3
  go_upto_region 1 with fail
  rw [hW1.out, hB.out]
  refine wp_region_lit ?_
  refine wpList_load_row rfl 29 (.tmp 2) rfl B rfl 29 (rowMsg m (.slice ae m.ents.length ce) (.slice ax m.sc.v.length cx) (.slice ay m.sc.n.length cy) (.slice az m.sc.l.length cz)).toArray (0, 0) _ (HA.out _ H10.out).1 Try.underlying29 rfl size_msg ?_
  go_upto_region 2 with fail
  rw [hW2.out, hX.out]
  have a7 : W2.cell? ⟨B, 7, none⟩ = some (.slice ae m.ents.length ce) := cell_n (HA.out _ H2.out).1 7 rfl
  go_wp2_with fail
  refine K.out.mono ?_
  rintro e w3 ⟨ae2, ce2, rfl, ho, hb⟩
  have H3 : Hid (Below W1.heap.size W1 w3) := H2.out.trans (hb.mono H2.out.size)
  have hx3 := (hb.block X (lt_of_block Hx2.out)).trans Hx2.out
  have HXs : Hid (X < W2.heap.size) := lt_of_block Hx2.out
  have c7 : w3.cell? ⟨X, 7, none⟩ = some (.slice ae m.ents.length ce) := cell_n hx3 7 rfl
  have f7 := free_n hx3 7
  obtain ⟨V3, hV3⟩ := hide (w3.setCell ⟨X, 7, none⟩ (.slice ae2 m.ents.length ce2))
  have hxv : V3.heap[X]? = some (.cells (rowMsg m (.slice ae2 m.ents.length ce2) (.slice ax m.sc.v.length cx) (.slice ay m.sc.n.length cy) (.slice az m.sc.l.length cz)).toArray 29 (0, 0)) := by rw [← hV3.out]; exact put_at hx3 _
  have HV3 : Hid (Below W1.heap.size W1 V3) := by show Below _ _ _; rw [← hV3.out]; exact H3.out.setCell (p := ⟨X, 7, none⟩) (by show _ ≤ X; rw [← hX.out]; exact Nat.le_refl _) _
  have HO3 : Hid (V3.ownsRow W2.heap.size 40 4 (.slice ae2 (m.ents.length + 1) ce2) (m.ents.length + 1) ((m.ents ++ [e99]).flatMap rowE)) := by
    show World.ownsRow _ _ _ _ _ _ _
    rw [← hV3.out]; exact own_up ho (Up.setCell W2.heap.size w3 (a := ⟨X, 7, none⟩) HXs.out _) (Nat.le_refl _)
  have HXX : Hid (∀ w', Below V3.heap.size V3 w' → w'.heap[X]? = some (.cells (rowMsg m (.slice ae2 m.ents.length ce2) (.slice ax m.sc.v.length cx) (.slice ay m.sc.n.length cy) (.slice az m.sc.l.length cz)).toArray 29 (0, 0)) ∧ Below W1.heap.size W1 w' ∧ Ents (fun g => W2.heap.size ≤ g) w' (.slice ae2 (m.ents.length + 1) ce2) (m.ents ++ [e99])) := by
    show ∀ w', _ → _
    intro w' h
    refine ⟨(h.block X (lt_of_block hxv)).trans hxv, HV3.out.trans (h.mono HV3.out.size), ?_⟩
    refine OwnE.ents ?_
    show World.ownsRow _ _ _ _ _ _ _
    rw [List.length_append]
    exact own_below HO3.out h
  have H30 : Hid (Below V3.heap.size V3 V3) := Below.refl _ _
  have HT : Hid (∀ w', Below V3.heap.size V3 w' → Ents (fun g => W2.heap.size ≤ g) w' (.slice ae2 m.ents.length ce2) m.ents) := by
    show ∀ w', _ → _
    intro w' h
    have := ((HXX.out w' h).2.2).take (k := m.ents.length) (by simp)
    simpa using this
  have K := Lib.hid (wire_putMessage m (.slice ae2 m.ents.length ce2) (.slice ax m.sc.v.length cx) (.slice ay m.sc.n.length cy) (.slice az m.sc.l.length cz) _ V3 (HT.out _ H30.out) (HE.out _ (HA.out _ HV3.out).2).2)
  clear hb ho hx3 hxv a7
  dsimp only
  go_upto_region 3 with fail
  rw [hV3.out]
  clear c7 f7
  refine wp_region_lit ?_
  refine wpList_load_row rfl 29 (.tmp 5) rfl X rfl 29 (rowMsg m (.slice ae2 m.ents.length ce2) (.slice ax m.sc.v.length cx) (.slice ay m.sc.n.length cy) (.slice az m.sc.l.length cz)).toArray (0, 0) _ (HXX.out _ H30.out).1 Try.underlying29 rfl size_msg ?_
  go_wp2_with fail
  refine K.out.mono ?_
  rintro e w4 ⟨rfl, hb⟩
  have H4 : Hid (Below V3.heap.size V3 w4) := hb
  clear hb K
  dsimp only
  have K := Lib.hid (ref_putMessage m (.slice ae m.ents.length ce) (.slice ax m.sc.v.length cx) (.slice ay m.sc.n.length cy) (.slice az m.sc.l.length cz) _ w4 (HE.out _ (HA.out _ (HXX.out _ H4.out).2.1).2).1 (HE.out _ (HA.out _ (HXX.out _ H4.out).2.1).2).2)
  obtain ⟨pb, hpb⟩ := hide (putMsgB m)
  obtain ⟨pe, hpe⟩ := hide (putMsgE m)
  rw [hpb.out, hpe.out] at K
  try rw [hpb.out, hpe.out]
  go_upto_region 4 with fail
  try rw [hpb.out, hpe.out]
  refine wp_region_lit ?_
  refine wpList_load_row rfl 29 (.tmp 2) rfl B rfl 29 (rowMsg m (.slice ae m.ents.length ce) (.slice ax m.sc.v.length cx) (.slice ay m.sc.n.length cy) (.slice az m.sc.l.length cz)).toArray (0, 0) _ (HA.out _ (HXX.out _ H4.out).2.1).1 Try.underlying29 rfl size_msg ?_
  go_wp2_with fail
  refine K.out.mono ?_
  rintro e w5 ⟨rfl, hb⟩
  have H5 := Lib.hid (H4.out.trans (hb.mono H4.out.size))
  clear hb K
  dsimp only
  have K := Lib.hid (wire_getMessage s w5 hs)
  go_wp2_with fail
  refine K.out.mono ?_
  intro e w6 hgot
  obtain ⟨ev, x, y, z, rfl, hmf, hb⟩ := got_any hgot
  obtain ⟨q, hq⟩ := hide (resMZ (full (rdMsg s))).1
  obtain ⟨zq, hzq⟩ := hide (resMZ (full (rdMsg s))).2
  rw [hq.out] at hmf
  rw [hq.out, hzq.out]
  obtain ⟨be, de, rfl, _, _⟩ := hmf.e.slice
  obtain ⟨bx, dx, rfl⟩ := hmf.c.v.len
  obtain ⟨by_, dy, rfl⟩ := hmf.c.n.len
  obtain ⟨bz, dz, rfl⟩ := hmf.c.l.len
  have H6 := Lib.hid (H5.out.trans (hb.mono H5.out.size))
  obtain ⟨V6, hV6⟩ := hide (w6.alloc (.cells (rowMsg q (.slice be q.ents.length de) (.slice bx q.sc.v.length dx) (.slice by_ q.sc.n.length dy) (.slice bz q.sc.l.length dz)).toArray 29))
  have ba : Below w6.heap.size w6 V6 := by rw [← hV6.out]; exact (Below.refl _ _).alloc (Nat.le_refl _) _
  have hy6 : V6.heap[w6.heap.size]? = some (.cells (rowMsg q (.slice be q.ents.length de) (.slice bx q.sc.v.length dx) (.slice by_ q.sc.n.length dy) (.slice bz q.sc.l.length dz)).toArray 29 (0, 0)) := by rw [← hV6.out]; exact hp_at _ _ rfl
  obtain ⟨Y, hY⟩ := hide w6.heap.size
  rw [hY.out] at hy6
  have HV6 := Lib.hid (H6.out.trans (ba.mono H6.out.size))
  have hmf6 := hmf.up (Up.ofBelow (S := w5.heap.size) ba) (Nat.le_refl _)
  have HY : Hid (∀ w', Below V6.heap.size V6 w' → w'.heap[Y]? = some (.cells (rowMsg q (.slice be q.ents.length de) (.slice bx q.sc.v.length dx) (.slice by_ q.sc.n.length dy) (.slice bz q.sc.l.length dz)).toArray 29 (0, 0)) ∧ MsgF w5.heap.size w' (.slice be q.ents.length de) (.slice bx q.sc.v.length dx) (.slice by_ q.sc.n.length dy) (.slice bz q.sc.l.length dz) q) := fun w' h => ⟨(h.block Y (lt_of_block hy6)).trans hy6, hmf6.up (Up.ofBelow (S := w5.heap.size) h) (Nat.le_refl _)⟩
  clear hgot hmf hb ba hy6 hmf6 K
  dsimp only
  go_upto_region 6 with fail
  rw [hV6.out, hY.out]
  have K := Lib.hid (ref_getMessage s V6 hs)
  go_wp2_with fail
  refine K.out.mono ?_
  intro e w7 hgot
  obtain ⟨ev, x, y, z, rfl, hmf, hb⟩ := got_any hgot
  rw [hq.out] at hmf
  rw [hq.out, hzq.out]
  obtain ⟨ge, ke, rfl, _, _⟩ := hmf.e.slice
  obtain ⟨gx, kx, rfl⟩ := hmf.c.v.len
  obtain ⟨gy, ky, rfl⟩ := hmf.c.n.len
  obtain ⟨gz, kz, rfl⟩ := hmf.c.l.len
  have H7 : Hid (Below V6.heap.size V6 w7) := hb
  obtain ⟨V7, hV7⟩ := hide (w7.alloc (.cells (rowMsg q (.slice ge q.ents.length ke) (.slice gx q.sc.v.length kx) (.slice gy q.sc.n.length ky) (.slice gz q.sc.l.length kz)).toArray 29))
  have ba : Below w7.heap.size w7 V7 := by rw [← hV7.out]; exact (Below.refl _ _).alloc (Nat.le_refl _) _
  have hy7 : V7.heap[w7.heap.size]? = some (.cells (rowMsg q (.slice ge q.ents.length ke) (.slice gx q.sc.v.length kx) (.slice gy q.sc.n.length ky) (.slice gz q.sc.l.length kz)).toArray 29 (0, 0)) := by rw [← hV7.out]; exact hp_at _ _ rfl
  obtain ⟨Z, hZ⟩ := hide w7.heap.size
  rw [hZ.out] at hy7
  have HV7 := Lib.hid (H7.out.trans (ba.mono H7.out.size))
  have HM7 := Lib.hid (hmf.up (Up.ofBelow (S := V6.heap.size) ba) (Nat.le_refl _))
  have Hz7 := Lib.hid hy7
  clear hgot hmf hb ba hy7 K
  dsimp only
  go_upto_region 7 with fail
  rw [hV7.out, hZ.out]
  have K := Lib.hid (law_sameMessage q _ _ _ _ _ _ _ _ _ _ V7 (HY.out _ HV7.out).2.e HM7.out.e (HY.out _ HV7.out).2.c.conf HM7.out.c.conf)
  refine wp_region_lit ?_
  refine wpList_load_row rfl 29 (.tmp 10) rfl Y rfl 29 (rowMsg q (.slice be q.ents.length de) (.slice bx q.sc.v.length dx) (.slice by_ q.sc.n.length dy) (.slice bz q.sc.l.length dz)).toArray (0, 0) _ (HY.out _ HV7.out).1 Try.underlying29 rfl size_msg ?_
  refine wpList_load_row rfl 29 (.tmp 12) rfl Z rfl 29 (rowMsg q (.slice ge q.ents.length ke) (.slice gx q.sc.v.length kx) (.slice gy q.sc.n.length ky) (.slice gz q.sc.l.length kz)).toArray (0, 0) _ Hz7.out Try.underlying29 rfl size_msg ?_
  go_wp2_with fail
  refine K.out.mono ?_
  rintro e w8 ⟨rfl, hb⟩
  have H8 := Lib.hid (HV6.out.trans ((HV7.out.trans (hb.mono HV7.out.size)).mono HV6.out.size))
  clear hb K
  dsimp only
  have K := Lib.hid (law_heldEntries ae2 ce2 (.slice ae m.ents.length ce) m.ents _ _ w8 (HXX.out _ H8.out).2.2 (HE.out _ (HA.out _ (HXX.out _ H8.out).2.1).2).1)
  have c7 : w8.cell? ⟨X, 7, none⟩ = some (.slice ae2 m.ents.length ce2) := cell_n (HXX.out _ H8.out).1 7 rfl
  have a7 : w8.cell? ⟨B, 7, none⟩ = some (.slice ae m.ents.length ce) := cell_n (HA.out _ (HXX.out _ H8.out).2.1).1 7 rfl
  go_wp2_with fail
  refine K.out.mono ?_
  rintro e w9 ⟨rfl, hb⟩
  have H9 := Lib.hid (H8.out.trans (hb.mono H8.out.size))
  clear hb K c7 a7
  dsimp only
  have K := wire_putMessage (⟨3, 1, 2, 3, 0, 0, 0, [], 0, 0, noConf, [], false, 0, 0⟩ : Msg) (.slice none 0 0) (.slice none 0 0) (.slice none 0 0) (.slice none 0 0) (fun _ => True) w9 (ents_nil _ _) ⟨(IntsF.nil 0 _).ints, (IntsF.nil 0 _).ints, (IntsF.nil 0 _).ints⟩
  rw [known_put.1, known_put.2] at K
  have K := Lib.hid K
  go_wp2_with fail
  refine K.out.mono ?_
  rintro e w10 ⟨rfl, hb⟩
  have Hq := Lib.hid (Hp.out _ (HA.out _ (HXX.out _ (H9.out.trans (hb.mono H9.out.size))).2.1).2)
  clear hb K
  dsimp only
  go_wp2_with fail
  first | exact Hq.out | (go_ret; exact Hq.out)
end Go.Proofs.Ytkcllpbbjlbfaaa
