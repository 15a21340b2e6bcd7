/-
  Reading messages, the panicking reader's way: the body.
-/
import Derived.Test.YtkcllpbbjlbfaaaMsi
import Derived.Test.YtkcllpbbjlbfaaaMsr
import Derived.Test.YtkcllpbbjlbfaaaRg
import Derived.Test.YtkcllpbbjlbfaaaEr
import Derived.Deep.CutBlock
import Derived.Deep.CutRange
namespace Go.Proofs.Ytkcllpbbjlbfaaa
open Go.RowKit Wm Mm Lg
set_option linter.unusedVariables false
set_option linter.unusedSimpArgs false

abbrev vFlag (b : Bool) : Value := .bool b
set_option maxHeartbeats 1000000 in
theorem flag_rd {b : Nat} {s : List UInt8} {w : World} (h : Rd w b s) :
    Calls Try.prog 24 #[.pointer (some ⟨b, 0, none⟩)] w (Gets b w vFlag (rdFlag s)) := by
  obtain ⟨res, HR⟩ := hide (rdFlag s)
  rw [HR.out]
  have KT := Lib.hid (take_rd 1 h)
  clear h
  cases s with
  | nil =>
    obtain rfl : .error 3 = res := HR.out
    go_enter Try.func24, Try.ntmps24
    go_wp2_with fail
    refine KT.out.mono ?_
    rintro e w' ⟨rfl, hg⟩
    have Hg := Lib.hid hg
    clear hg
    go_wp2_with fail
    exact ⟨rfl, rfl, Hg.out⟩
  | cons c t =>
    have KT2 : Hid (Calls Try.prog 50 #[.pointer (some ⟨b, 0, none⟩), .int .i64 1] w fun e w' => e = .returned (.string ⟨#[c]⟩) ∧ Rd w' b t ∧ w.grownBy w' (some b)) := by
      refine KT.out.mono ?_
      have e1 : rdTake 1 (c :: t) = .ok ([c], t) := by simp [rdTake]
      rw [e1]
      intro e w' hp
      exact hp
    clear KT
    by_cases hc : 1 < c.toNat
    · obtain rfl : .error 1 = res := by rw [← HR.out, rdFlag]; simp [hc]
      have t1 : decide ((1 : Int) < (c.toNat : Int)) = true := decide_eq_true (by omega)
      clear hc
      go_enter Try.func24, Try.ntmps24
      go_wp2_with fail
      refine KT2.out.mono ?_
      rintro e w' ⟨rfl, hr, hg⟩
      have Hg := Lib.hid hg
      clear hg hr
      go_wp2_with (go_at_call 28; refine (fail_any _ _).mono ?_; rintro e w' ⟨rfl, rfl⟩)
      exact ⟨rfl, rfl, Hg.out⟩
    · obtain rfl : .ok (decide (c.toNat = 1), t) = res := by rw [← HR.out, rdFlag]; simp [hc]
      have t1 : decide ((1 : Int) < (c.toNat : Int)) = false := decide_eq_false (by omega)
      have t2 : ((c.toNat : Int) == 1) = decide (c.toNat = 1) := by
        rw [Bool.eq_iff_iff]; simp; omega
      clear hc
      obtain ⟨r, hr0⟩ := hide (decide (c.toNat = 1))
      rw [hr0.out] at t2 ⊢
      clear hr0
      go_enter Try.func24, Try.ntmps24
      go_wp2_with fail
      refine KT2.out.mono ?_
      rintro e w' ⟨rfl, hr, hg⟩
      have Hr := Lib.hid hr
      have Hg := Lib.hid hg
      clear hg hr
      go_wp2_with fail
      first | exact ⟨rfl, Hr.out, Hg.out⟩ | (go_ret; exact ⟨rfl, Hr.out, Hg.out⟩)

theorem ents_up {S S' : Nat} {w w' : World} {v : Value} {l : List EntP} (h : Ents (fun k => S ≤ k) w v l) (hu : Up S' w w') (hs : S' ≤ S) : Ents (fun k => S ≤ k) w' v l := by
  obtain ⟨ao, cap, rfl, hc, hm, hx⟩ := h
  refine ⟨ao, cap, rfl, hc, hm, fun hne => ?_⟩
  obtain ⟨b, off, rfl, hF, hb, hj⟩ := hx hne
  have e := hu b (Nat.le_trans hs hF) hb
  refine ⟨b, off, rfl, hF, ?_, fun j y hy => ?_⟩
  · by_cases hlt : b < w'.heap.size
    · exact hlt
    · rw [Array.getElem?_eq_none (by omega), Array.getElem?_eq_getElem hb] at e
      cases e
  obtain ⟨us, h1, h2, h3⟩ := hj j y hy
  refine ⟨us, h1, h2, fun i u hu => ?_⟩
  rw [← h3 i u hu]
  simp only [World.cell?, e]
/-- the slices of a message that was read -/
structure MsgF (S : Nat) (w : World) (ev x y z : Value) (m : Msg) : Prop where
  e : Ents (fun k => S ≤ k) w ev m.ents
  c : Config3F S w x y z m.sc
theorem MsgF.up {S S' : Nat} {w w' : World} {ev x y z : Value} {m : Msg} (h : MsgF S w ev x y z m) (hu : Up S' w w') (hs : S' ≤ S) : MsgF S w' ev x y z m := ⟨ents_up h.e hu hs, h.c.up hu hs⟩
theorem MsgF.base {S S' : Nat} {w : World} {ev x y z : Value} {m : Msg} (h : MsgF S w ev x y z m) (hs : S' ≤ S) : MsgF S' w ev x y z m := ⟨Sl.weak (Plain.good _) h.e (fun k hk _ => Nat.le_trans hs hk), h.c.base hs⟩
theorem ents_nil (F : Nat → Prop) (w : World) : Ents F w (.slice none 0 0) [] := Sl.nil 4 _ F w
theorem LocSt.set {w W : World} {b B Q : Nat} {T : TypeId} {zero loc : List Value} {u : List UInt8} (h : LocSt w W b B Q T zero loc u) (hw : w.heap.size = B) (hb : b < B) (hQ : B < Q) (i : Nat) (v : Value) : LocSt w (W.setCell ⟨Q, i, none⟩ v) b B Q T zero (loc.set i v) u := by
  refine ⟨hp_set_other h.res (by simp; omega), ?_, ⟨hp_set_other h.rd.1 (by simp; omega), h.rd.2⟩, grown_fresh' h.grown (by simp; omega) _⟩
  rw [heap_setCell, if_pos rfl, h.loc]
  simp [storeIn]
def GetsMsg (S b : Nat) (w : World) (res : Res Msg) (e : Ending) (w' : World) : Prop :=
  match res with
  | .ok (q, t) => ∃ ev x y z, e = .returned (vMsg q ev x y z) ∧ MsgF S w' ev x y z q ∧ Rd w' b t ∧ w.grownBy w' (some b)
  | .error z => e = stopped z ∧ w.grownBy w' (some b)

set_option maxHeartbeats 4000000 in
set_option maxRecDepth 100000 in
theorem getM_ask {v1 v2 v4 v5 v6 v7 v8 v9 v10 v11 v12 v13 v15 v16 v17 v18 v19 v20 v21 v22 v23 v24 v25 v26 v27 v28 v29 v30 v31 v32 v33 v34 v35 v36 v37 v38 v39 v40 v41 v42 v43 v44 v45 v46 v47 v48 v49 v50 v51 v52 v53 v54 v55 v56 v57 v58 v59 v60 v61 v62 v63 v64 v65 v66 v67 v68 v69 v70 v71 v72 v73 v74 v75 v76 v77 v78 v79 v80 v81 v82 : Value} (k f d t : Nat) (u : List UInt8) (res : Res Msg) (S b B Q : Nat) (w W : World)
    (H : Hid (LocSt w W b B Q 29 zeroMsg (rowMsg (msg0 k f d t) (.slice none 0 0) (.slice none 0 0) (.slice none 0 0) (.slice none 0 0)) u)) (HwB : Hid (w.heap.size = B)) (Hbw : Hid (b < B)) (HBQ : Hid (B < Q)) (HR : Hid (okMsg (rdTail k f d t u) = res)) (hk : k = 1 ∨ k = 3)
    (K : Act → World → Prop)
    (HK : Hid (∀ (u15 u16 u17 u18 u19 u20 u21 u22 u23 u24 u25 u26 u27 u28 u29 u30 u31 u32 u33 u34 u35 u36 u37 u38 u39 u40 u41 u42 u43 u44 u45 u46 u47 u48 u49 u50 u51 u52 u53 u54 u55 u56 u57 u58 u59 u60 u61 u62 u63 u64 u65 u66 u67 u68 u69 u70 u71 u72 u73 u74 u75 u76 u77 : Value) (wx : World), (∃ (m : Msg) (ev x y z : Value) (u' : List UInt8), LocSt w wx b B Q 29 zeroMsg (rowMsg m ev x y z) u' ∧ MsgF (Q + 1) wx ev x y z m ∧ okMsg (.ok (m, u')) = res) → K ⟨#[.pointer (some ⟨b, 0, none⟩), v1, v2, .pointer (some ⟨Q, 0, none⟩), v4, v5, v6, v7, v8, v9, v10, v11, v12, v13, .int .i64 (k : Nat), u15, u16, u17, u18, u19, u20, u21, u22, u23, u24, u25, u26, u27, u28, u29, u30, u31, u32, u33, u34, u35, u36, u37, u38, u39, u40, u41, u42, u43, u44, u45, u46, u47, u48, u49, u50, u51, u52, u53, u54, u55, u56, u57, u58, u59, u60, u61, u62, u63, u64, u65, u66, u67, u68, u69, u70, u71, u72, u73, u74, u75, u76, u77, v78, v79, v80, v81, v82], []⟩ wx)) :
    Code.wp Try.prog ((Try.f22.body.bind (blockAt 0)).getD .skip) (Exit.then K (bodyPost Try.prog Try.f22 (GetsMsg S b w res))) ⟨#[.pointer (some ⟨b, 0, none⟩), v1, v2, .pointer (some ⟨Q, 0, none⟩), v4, v5, v6, v7, v8, v9, v10, v11, v12, v13, .int .i64 (k : Nat), v15, v16, v17, v18, v19, v20, v21, v22, v23, v24, v25, v26, v27, v28, v29, v30, v31, v32, v33, v34, v35, v36, v37, v38, v39, v40, v41, v42, v43, v44, v45, v46, v47, v48, v49, v50, v51, v52, v53, v54, v55, v56, v57, v58, v59, v60, v61, v62, v63, v64, v65, v66, v67, v68, v69, v70, v71, v72, v73, v74, v75, v76, v77, v78, v79, v80, v81, v82], []⟩ W := by
  conv => arg 2; whnf
  have hk' := hk
  rcases hk with hk | hk
  · have t1 : ((k : Int) == 1) = true := by rw [hk]; rfl
    have hr0 : okMsg (rdAsk k f d t u) = res := by rw [← HR.out, rdTail, if_pos hk']
    rw [rdAsk] at hr0
    have HR0 := Lib.hid hr0
    clear hr0 hk hk'
    go_wp2_with fail
    refine (number_rd H.out.rd).mono ?_
    intro e w1 hp
    cases hx : rdNum u with
    | error z =>
      rw [hx] at hp
      obtain rfl : .error z = res := by have hh := HR0.out; rw [hx] at hh; exact hh
      obtain ⟨rfl, hg⟩ := hp
      have Hge := Lib.hid (grown_trans H.out.grown hg)
      clear hg hx
      go_wp2_with fail
      exact ⟨rfl, rfl, Hge.out⟩
    | ok p =>
    obtain ⟨i, u1⟩ := p
    rw [hx] at hp
    have hrd := HR0.out
    rw [hx] at hrd
    simp only [] at hrd
    have HR1 := Lib.hid hrd
    obtain ⟨rfl, hr, hg⟩ := hp
    have S1 := Lib.hid (H.out.read Hbw.out HBQ.out hr hg)
    clear hr hg hx hrd
    go_wp2_with fail
    refine (number_rd S1.out.rd).mono ?_
    intro e w2 hp
    cases hx : rdNum u1 with
    | error z =>
      rw [hx] at hp
      obtain rfl : .error z = res := by have hh := HR1.out; rw [hx] at hh; exact hh
      obtain ⟨rfl, hg⟩ := hp
      have Hge := Lib.hid (grown_trans S1.out.grown hg)
      clear hg hx
      go_wp2_with fail
      exact ⟨rfl, rfl, Hge.out⟩
    | ok p =>
    obtain ⟨l, u2⟩ := p
    rw [hx] at hp
    have hrd := HR1.out
    rw [hx] at hrd
    simp only [] at hrd
    have HR2 := Lib.hid hrd
    obtain ⟨rfl, hr, hg⟩ := hp
    have S2 := Lib.hid (S1.out.read Hbw.out HBQ.out hr hg)
    clear hr hg hx hrd
    have c4 := cell_n S2.out.loc 4 (v := .int .i64 0) rfl
    have f4 := free_n S2.out.loc 4
    have c5 := cell_n S2.out.loc 5 (v := .int .i64 0) rfl
    have f5 := free_n S2.out.loc 5
    have HS := Lib.hid ((S2.out.set HwB.out Hbw.out HBQ.out 4 (.int .i64 (i : Nat))).set HwB.out Hbw.out HBQ.out 5 (.int .i64 (l : Nat)))
    go_wp2_with fail
    (refine HK.out _ _ _ _ _ _ _ _ _ _ _ _ _ _ _ _ _ _ _ _ _ _ _ _ _ _ _ _ _ _ _ _ _ _ _ _ _ _ _ _ _ _ _ _ _ _ _ _ _ _ _ _ _ _ _ _ _ _ _ _ _ _ _ _ ?_; exact ⟨⟨k, f, d, t, i, l, 0, [], 0, 0, noConf, [], false, 0, 0⟩, (.slice none 0 0), (.slice none 0 0), (.slice none 0 0), (.slice none 0 0), _, HS.out, ⟨ents_nil _ _, Config3F.nil _ _⟩, HR2.out⟩)
  · have t1 : ((k : Int) == 1) = false := beq_eq_false_iff_ne.2 (by omega)
    have t3 : ((k : Int) == 3) = true := by rw [hk]; rfl
    have hr0 : okMsg (rdAsk k f d t u) = res := by rw [← HR.out, rdTail, if_pos hk']
    rw [rdAsk] at hr0
    have HR0 := Lib.hid hr0
    clear hr0 hk hk'
    go_wp2_with fail
    refine (number_rd H.out.rd).mono ?_
    intro e w1 hp
    cases hx : rdNum u with
    | error z =>
      rw [hx] at hp
      obtain rfl : .error z = res := by have hh := HR0.out; rw [hx] at hh; exact hh
      obtain ⟨rfl, hg⟩ := hp
      have Hge := Lib.hid (grown_trans H.out.grown hg)
      clear hg hx
      go_wp2_with fail
      exact ⟨rfl, rfl, Hge.out⟩
    | ok p =>
    obtain ⟨i, u1⟩ := p
    rw [hx] at hp
    have hrd := HR0.out
    rw [hx] at hrd
    simp only [] at hrd
    have HR1 := Lib.hid hrd
    obtain ⟨rfl, hr, hg⟩ := hp
    have S1 := Lib.hid (H.out.read Hbw.out HBQ.out hr hg)
    clear hr hg hx hrd
    go_wp2_with fail
    refine (number_rd S1.out.rd).mono ?_
    intro e w2 hp
    cases hx : rdNum u1 with
    | error z =>
      rw [hx] at hp
      obtain rfl : .error z = res := by have hh := HR1.out; rw [hx] at hh; exact hh
      obtain ⟨rfl, hg⟩ := hp
      have Hge := Lib.hid (grown_trans S1.out.grown hg)
      clear hg hx
      go_wp2_with fail
      exact ⟨rfl, rfl, Hge.out⟩
    | ok p =>
    obtain ⟨l, u2⟩ := p
    rw [hx] at hp
    have hrd := HR1.out
    rw [hx] at hrd
    simp only [] at hrd
    have HR2 := Lib.hid hrd
    obtain ⟨rfl, hr, hg⟩ := hp
    have S2 := Lib.hid (S1.out.read Hbw.out HBQ.out hr hg)
    clear hr hg hx hrd
    have c4 := cell_n S2.out.loc 4 (v := .int .i64 0) rfl
    have f4 := free_n S2.out.loc 4
    have c5 := cell_n S2.out.loc 5 (v := .int .i64 0) rfl
    have f5 := free_n S2.out.loc 5
    have HS := Lib.hid ((S2.out.set HwB.out Hbw.out HBQ.out 4 (.int .i64 (i : Nat))).set HwB.out Hbw.out HBQ.out 5 (.int .i64 (l : Nat)))
    go_wp2_with fail
    (refine HK.out _ _ _ _ _ _ _ _ _ _ _ _ _ _ _ _ _ _ _ _ _ _ _ _ _ _ _ _ _ _ _ _ _ _ _ _ _ _ _ _ _ _ _ _ _ _ _ _ _ _ _ _ _ _ _ _ _ _ _ _ _ _ _ _ ?_; exact ⟨⟨k, f, d, t, i, l, 0, [], 0, 0, noConf, [], false, 0, 0⟩, (.slice none 0 0), (.slice none 0 0), (.slice none 0 0), (.slice none 0 0), _, HS.out, ⟨ents_nil _ _, Config3F.nil _ _⟩, HR2.out⟩)
set_option maxHeartbeats 4000000 in
set_option maxRecDepth 100000 in
theorem getM_rep {v1 v2 v4 v5 v6 v7 v8 v9 v10 v11 v12 v13 v15 v16 v17 v18 v19 v20 v21 v22 v23 v24 v25 v26 v27 v28 v29 v30 v31 v32 v33 v34 v35 v36 v37 v38 v39 v40 v41 v42 v43 v44 v45 v46 v47 v48 v49 v50 v51 v52 v53 v54 v55 v56 v57 v58 v59 v60 v61 v62 v63 v64 v65 v66 v67 v68 v69 v70 v71 v72 v73 v74 v75 v76 v77 v78 v79 v80 v81 v82 : Value} (k f d t : Nat) (u : List UInt8) (res : Res Msg) (S b B Q : Nat) (w W : World)
    (H : Hid (LocSt w W b B Q 29 zeroMsg (rowMsg (msg0 k f d t) (.slice none 0 0) (.slice none 0 0) (.slice none 0 0) (.slice none 0 0)) u)) (HwB : Hid (w.heap.size = B)) (Hbw : Hid (b < B)) (HBQ : Hid (B < Q)) (HR : Hid (okMsg (rdTail k f d t u) = res)) (hk : k = 2 ∨ k = 4)
    (K : Act → World → Prop)
    (HK : Hid (∀ (u15 u16 u17 u18 u19 u20 u21 u22 u23 u24 u25 u26 u27 u28 u29 u30 u31 u32 u33 u34 u35 u36 u37 u38 u39 u40 u41 u42 u43 u44 u45 u46 u47 u48 u49 u50 u51 u52 u53 u54 u55 u56 u57 u58 u59 u60 u61 u62 u63 u64 u65 u66 u67 u68 u69 u70 u71 u72 u73 u74 u75 u76 u77 : Value) (wx : World), (∃ (m : Msg) (ev x y z : Value) (u' : List UInt8), LocSt w wx b B Q 29 zeroMsg (rowMsg m ev x y z) u' ∧ MsgF (Q + 1) wx ev x y z m ∧ okMsg (.ok (m, u')) = res) → K ⟨#[.pointer (some ⟨b, 0, none⟩), v1, v2, .pointer (some ⟨Q, 0, none⟩), v4, v5, v6, v7, v8, v9, v10, v11, v12, v13, .int .i64 (k : Nat), u15, u16, u17, u18, u19, u20, u21, u22, u23, u24, u25, u26, u27, u28, u29, u30, u31, u32, u33, u34, u35, u36, u37, u38, u39, u40, u41, u42, u43, u44, u45, u46, u47, u48, u49, u50, u51, u52, u53, u54, u55, u56, u57, u58, u59, u60, u61, u62, u63, u64, u65, u66, u67, u68, u69, u70, u71, u72, u73, u74, u75, u76, u77, v78, v79, v80, v81, v82], []⟩ wx)) :
    Code.wp Try.prog ((Try.f22.body.bind (blockAt 0)).getD .skip) (Exit.then K (bodyPost Try.prog Try.f22 (GetsMsg S b w res))) ⟨#[.pointer (some ⟨b, 0, none⟩), v1, v2, .pointer (some ⟨Q, 0, none⟩), v4, v5, v6, v7, v8, v9, v10, v11, v12, v13, .int .i64 (k : Nat), v15, v16, v17, v18, v19, v20, v21, v22, v23, v24, v25, v26, v27, v28, v29, v30, v31, v32, v33, v34, v35, v36, v37, v38, v39, v40, v41, v42, v43, v44, v45, v46, v47, v48, v49, v50, v51, v52, v53, v54, v55, v56, v57, v58, v59, v60, v61, v62, v63, v64, v65, v66, v67, v68, v69, v70, v71, v72, v73, v74, v75, v76, v77, v78, v79, v80, v81, v82], []⟩ W := by
  conv => arg 2; whnf
  have hk' := hk
  rcases hk with hk | hk
  · have t1 : ((k : Int) == 1) = false := beq_eq_false_iff_ne.2 (by omega)
    have t3 : ((k : Int) == 3) = false := beq_eq_false_iff_ne.2 (by omega)
    have t2 : ((k : Int) == 2) = true := by rw [hk]; rfl
    have hr0 : okMsg (rdRep k f d t u) = res := by rw [← HR.out, rdTail, if_neg (by omega), if_pos hk']
    rw [rdRep] at hr0
    have HR0 := Lib.hid hr0
    clear hr0 hk hk'
    go_wp2_with fail
    refine (flag_rd H.out.rd).mono ?_
    intro e w1 hp
    cases hx : rdFlag u with
    | error z =>
      rw [hx] at hp
      obtain rfl : .error z = res := by have hh := HR0.out; rw [hx] at hh; exact hh
      obtain ⟨rfl, hg⟩ := hp
      have Hge := Lib.hid (grown_trans H.out.grown hg)
      clear hg hx
      go_wp2_with fail
      exact ⟨rfl, rfl, Hge.out⟩
    | ok p =>
    obtain ⟨fl, u1⟩ := p
    rw [hx] at hp
    have hrd := HR0.out
    rw [hx] at hrd
    simp only [] at hrd
    have HR1 := Lib.hid hrd
    obtain ⟨rfl, hr, hg⟩ := hp
    have S1 := Lib.hid (H.out.read Hbw.out HBQ.out hr hg)
    clear hr hg hx hrd
    have c14 := cell_n S1.out.loc 14 (v := .bool false) rfl
    have f14 := free_n S1.out.loc 14
    have HS := Lib.hid (S1.out.set HwB.out Hbw.out HBQ.out 14 (.bool fl))
    go_wp2_with fail
    (refine HK.out _ _ _ _ _ _ _ _ _ _ _ _ _ _ _ _ _ _ _ _ _ _ _ _ _ _ _ _ _ _ _ _ _ _ _ _ _ _ _ _ _ _ _ _ _ _ _ _ _ _ _ _ _ _ _ _ _ _ _ _ _ _ _ _ ?_; exact ⟨⟨k, f, d, t, 0, 0, 0, [], 0, 0, noConf, [], fl, 0, 0⟩, (.slice none 0 0), (.slice none 0 0), (.slice none 0 0), (.slice none 0 0), _, HS.out, ⟨ents_nil _ _, Config3F.nil _ _⟩, HR1.out⟩)
  · have t1 : ((k : Int) == 1) = false := beq_eq_false_iff_ne.2 (by omega)
    have t3 : ((k : Int) == 3) = false := beq_eq_false_iff_ne.2 (by omega)
    have t2 : ((k : Int) == 2) = false := beq_eq_false_iff_ne.2 (by omega)
    have t4 : ((k : Int) == 4) = true := by rw [hk]; rfl
    have hr0 : okMsg (rdRep k f d t u) = res := by rw [← HR.out, rdTail, if_neg (by omega), if_pos hk']
    rw [rdRep] at hr0
    have HR0 := Lib.hid hr0
    clear hr0 hk hk'
    go_wp2_with fail
    refine (flag_rd H.out.rd).mono ?_
    intro e w1 hp
    cases hx : rdFlag u with
    | error z =>
      rw [hx] at hp
      obtain rfl : .error z = res := by have hh := HR0.out; rw [hx] at hh; exact hh
      obtain ⟨rfl, hg⟩ := hp
      have Hge := Lib.hid (grown_trans H.out.grown hg)
      clear hg hx
      go_wp2_with fail
      exact ⟨rfl, rfl, Hge.out⟩
    | ok p =>
    obtain ⟨fl, u1⟩ := p
    rw [hx] at hp
    have hrd := HR0.out
    rw [hx] at hrd
    simp only [] at hrd
    have HR1 := Lib.hid hrd
    obtain ⟨rfl, hr, hg⟩ := hp
    have S1 := Lib.hid (H.out.read Hbw.out HBQ.out hr hg)
    clear hr hg hx hrd
    have c14 := cell_n S1.out.loc 14 (v := .bool false) rfl
    have f14 := free_n S1.out.loc 14
    have HS := Lib.hid (S1.out.set HwB.out Hbw.out HBQ.out 14 (.bool fl))
    go_wp2_with fail
    (refine HK.out _ _ _ _ _ _ _ _ _ _ _ _ _ _ _ _ _ _ _ _ _ _ _ _ _ _ _ _ _ _ _ _ _ _ _ _ _ _ _ _ _ _ _ _ _ _ _ _ _ _ _ _ _ _ _ _ _ _ _ _ _ _ _ _ ?_; exact ⟨⟨k, f, d, t, 0, 0, 0, [], 0, 0, noConf, [], fl, 0, 0⟩, (.slice none 0 0), (.slice none 0 0), (.slice none 0 0), (.slice none 0 0), _, HS.out, ⟨ents_nil _ _, Config3F.nil _ _⟩, HR1.out⟩)
set_option maxHeartbeats 4000000 in
set_option maxRecDepth 100000 in
theorem getM_app {v1 v2 v4 v5 v6 v7 v8 v9 v10 v11 v12 v13 v15 v16 v17 v18 v19 v20 v21 v22 v23 v24 v25 v26 v27 v28 v29 v30 v31 v32 v33 v34 v35 v36 v37 v38 v39 v40 v41 v42 v43 v44 v45 v46 v47 v48 v49 v50 v51 v52 v53 v54 v55 v56 v57 v58 v59 v60 v61 v62 v63 v64 v65 v66 v67 v68 v69 v70 v71 v72 v73 v74 v75 v76 v77 v78 v79 v80 v81 v82 : Value} (k f d t : Nat) (u : List UInt8) (res : Res Msg) (S b B Q : Nat) (w W : World)
    (H : Hid (LocSt w W b B Q 29 zeroMsg (rowMsg (msg0 k f d t) (.slice none 0 0) (.slice none 0 0) (.slice none 0 0) (.slice none 0 0)) u)) (HwB : Hid (w.heap.size = B)) (Hbw : Hid (b < B)) (HBQ : Hid (B < Q)) (HR : Hid (okMsg (rdTail k f d t u) = res)) (hk : k = 5)
    (K : Act → World → Prop)
    (HK : Hid (∀ (u15 u16 u17 u18 u19 u20 u21 u22 u23 u24 u25 u26 u27 u28 u29 u30 u31 u32 u33 u34 u35 u36 u37 u38 u39 u40 u41 u42 u43 u44 u45 u46 u47 u48 u49 u50 u51 u52 u53 u54 u55 u56 u57 u58 u59 u60 u61 u62 u63 u64 u65 u66 u67 u68 u69 u70 u71 u72 u73 u74 u75 u76 u77 : Value) (wx : World), (∃ (m : Msg) (ev x y z : Value) (u' : List UInt8), LocSt w wx b B Q 29 zeroMsg (rowMsg m ev x y z) u' ∧ MsgF (Q + 1) wx ev x y z m ∧ okMsg (.ok (m, u')) = res) → K ⟨#[.pointer (some ⟨b, 0, none⟩), v1, v2, .pointer (some ⟨Q, 0, none⟩), v4, v5, v6, v7, v8, v9, v10, v11, v12, v13, .int .i64 (k : Nat), u15, u16, u17, u18, u19, u20, u21, u22, u23, u24, u25, u26, u27, u28, u29, u30, u31, u32, u33, u34, u35, u36, u37, u38, u39, u40, u41, u42, u43, u44, u45, u46, u47, u48, u49, u50, u51, u52, u53, u54, u55, u56, u57, u58, u59, u60, u61, u62, u63, u64, u65, u66, u67, u68, u69, u70, u71, u72, u73, u74, u75, u76, u77, v78, v79, v80, v81, v82], []⟩ wx)) :
    Code.wp Try.prog ((Try.f22.body.bind (blockAt 0)).getD .skip) (Exit.then K (bodyPost Try.prog Try.f22 (GetsMsg S b w res))) ⟨#[.pointer (some ⟨b, 0, none⟩), v1, v2, .pointer (some ⟨Q, 0, none⟩), v4, v5, v6, v7, v8, v9, v10, v11, v12, v13, .int .i64 (k : Nat), v15, v16, v17, v18, v19, v20, v21, v22, v23, v24, v25, v26, v27, v28, v29, v30, v31, v32, v33, v34, v35, v36, v37, v38, v39, v40, v41, v42, v43, v44, v45, v46, v47, v48, v49, v50, v51, v52, v53, v54, v55, v56, v57, v58, v59, v60, v61, v62, v63, v64, v65, v66, v67, v68, v69, v70, v71, v72, v73, v74, v75, v76, v77, v78, v79, v80, v81, v82], []⟩ W := by
  conv => arg 2; whnf
  have hk' := hk
  have t1 : ((k : Int) == 1) = false := beq_eq_false_iff_ne.2 (by omega)
  have t3 : ((k : Int) == 3) = false := beq_eq_false_iff_ne.2 (by omega)
  have t2 : ((k : Int) == 2) = false := beq_eq_false_iff_ne.2 (by omega)
  have t4 : ((k : Int) == 4) = false := beq_eq_false_iff_ne.2 (by omega)
  have t5 : ((k : Int) == 5) = true := by rw [hk]; rfl
  have hr0 : okMsg (rdApp k f d t u) = res := by rw [← HR.out, rdTail, if_neg (by omega), if_neg (by omega), if_pos hk']
  rw [rdApp] at hr0
  have HR0 := Lib.hid hr0
  clear hr0 hk hk'
  go_wp2_with fail
  refine (number_rd H.out.rd).mono ?_
  intro e w1 hp
  cases hx : rdNum u with
  | error z =>
    rw [hx] at hp
    obtain rfl : .error z = res := by have hh := HR0.out; rw [hx] at hh; exact hh
    obtain ⟨rfl, hg⟩ := hp
    have Hge := Lib.hid (grown_trans H.out.grown hg)
    clear hg hx
    go_wp2_with fail
    exact ⟨rfl, rfl, Hge.out⟩
  | ok p =>
  obtain ⟨i, u1⟩ := p
  rw [hx] at hp
  have hrd := HR0.out
  rw [hx] at hrd
  simp only [] at hrd
  have HR1 := Lib.hid hrd
  obtain ⟨rfl, hr, hg⟩ := hp
  have S1 := Lib.hid (H.out.read Hbw.out HBQ.out hr hg)
  clear hr hg hx hrd
  go_wp2_with fail
  refine (number_rd S1.out.rd).mono ?_
  intro e w2 hp
  cases hx : rdNum u1 with
  | error z =>
    rw [hx] at hp
    obtain rfl : .error z = res := by have hh := HR1.out; rw [hx] at hh; exact hh
    obtain ⟨rfl, hg⟩ := hp
    have Hge := Lib.hid (grown_trans S1.out.grown hg)
    clear hg hx
    go_wp2_with fail
    exact ⟨rfl, rfl, Hge.out⟩
  | ok p =>
  obtain ⟨l, u2⟩ := p
  rw [hx] at hp
  have hrd := HR1.out
  rw [hx] at hrd
  simp only [] at hrd
  have HR2 := Lib.hid hrd
  obtain ⟨rfl, hr, hg⟩ := hp
  have S2 := Lib.hid (S1.out.read Hbw.out HBQ.out hr hg)
  clear hr hg hx hrd
  go_wp2_with fail
  refine (number_rd S2.out.rd).mono ?_
  intro e w3 hp
  cases hx : rdNum u2 with
  | error z =>
    rw [hx] at hp
    obtain rfl : .error z = res := by have hh := HR2.out; rw [hx] at hh; exact hh
    obtain ⟨rfl, hg⟩ := hp
    have Hge := Lib.hid (grown_trans S2.out.grown hg)
    clear hg hx
    go_wp2_with fail
    exact ⟨rfl, rfl, Hge.out⟩
  | ok p =>
  obtain ⟨c, u3⟩ := p
  rw [hx] at hp
  have hrd := HR2.out
  rw [hx] at hrd
  simp only [] at hrd
  have HR3 := Lib.hid hrd
  obtain ⟨rfl, hr, hg⟩ := hp
  have S3 := Lib.hid (S2.out.read Hbw.out HBQ.out hr hg)
  clear hr hg hx hrd
  go_wp2_with fail
  refine (number_rd S3.out.rd).mono ?_
  intro e w4 hp
  cases hx : rdNum u3 with
  | error z =>
    rw [hx] at hp
    obtain rfl : .error z = res := by have hh := HR3.out; rw [hx] at hh; exact hh
    obtain ⟨rfl, hg⟩ := hp
    have Hge := Lib.hid (grown_trans S3.out.grown hg)
    clear hg hx
    go_wp2_with fail
    exact ⟨rfl, rfl, Hge.out⟩
  | ok p =>
  obtain ⟨x, u4⟩ := p
  rw [hx] at hp
  have hrd := HR3.out
  rw [hx] at hrd
  simp only [] at hrd
  have HR4 := Lib.hid hrd
  obtain ⟨rfl, hr, hg⟩ := hp
  have S4 := Lib.hid (S3.out.read Hbw.out HBQ.out hr hg)
  clear hr hg hx hrd
  have c4 := cell_n S4.out.loc 4 (v := .int .i64 0) rfl
  have f4 := free_n S4.out.loc 4
  have c5 := cell_n S4.out.loc 5 (v := .int .i64 0) rfl
  have f5 := free_n S4.out.loc 5
  have c6 := cell_n S4.out.loc 6 (v := .int .i64 0) rfl
  have f6 := free_n S4.out.loc 6
  have c16 := cell_n S4.out.loc 16 (v := .int .i64 0) rfl
  have f16 := free_n S4.out.loc 16
  have hS5 := ((((S4.out.set HwB.out Hbw.out HBQ.out 4 (.int .i64 (i : Nat))).set HwB.out Hbw.out HBQ.out 5 (.int .i64 (l : Nat))).set HwB.out Hbw.out HBQ.out 6 (.int .i64 (c : Nat))).set HwB.out Hbw.out HBQ.out 16 (.int .i64 (x : Nat)))
  obtain ⟨W5, hW5⟩ := hide ((((w4.setCell ⟨Q, 4, none⟩ (.int .i64 (i : Nat))).setCell ⟨Q, 5, none⟩ (.int .i64 (l : Nat))).setCell ⟨Q, 6, none⟩ (.int .i64 (c : Nat))).setCell ⟨Q, 16, none⟩ (.int .i64 (x : Nat)))
  rw [hW5.out] at hS5
  have S5 : Hid (LocSt w W5 b B Q 29 zeroMsg (rowMsg ⟨k, f, d, t, i, l, c, [], 0, 0, noConf, [], false, 0, x⟩ (.slice none 0 0) (.slice none 0 0) (.slice none 0 0) (.slice none 0 0)) u4) := hS5
  clear hS5
  have hr4 := HR4.out
  rw [rdAppE] at hr4
  have HR5 := Lib.hid hr4
  clear hr4
  go_upto_region 11 with fail
  rw [hW5.out]
  clear c4 c5 c6 c16 f4 f5 f6 f16
  go_wp2_with fail
  refine (upTo_rd 8 (by decide) S5.out.rd).mono ?_
  intro e w6 hp
  cases hx : rdUpTo 8 u4 with
  | error z =>
    rw [hx] at hp
    obtain rfl : .error z = res := by have hh := HR5.out; rw [hx] at hh; exact hh
    obtain ⟨rfl, hg⟩ := hp
    have Hge := Lib.hid (grown_trans S5.out.grown hg)
    clear hg hx
    go_wp2_with fail
    exact ⟨rfl, rfl, Hge.out⟩
  | ok p =>
  obtain ⟨n, u5⟩ := p
  rw [hx] at hp
  have hrd := HR5.out
  rw [hx] at hrd
  simp only [] at hrd
  have HR6 := Lib.hid hrd
  obtain ⟨rfl, hr, hg⟩ := hp
  have S6 := Lib.hid (S5.out.read Hbw.out HBQ.out hr hg)
  have hn8 : n ≤ 8 := (rdUpTo_le hx).1
  clear hr hg hx hrd
  go_wp2_with fail
  go_loopw [46] (fun ct wr => ∃ (j : Nat) (acc : List EntP) (v : List UInt8) (ev : Value), ct = .int .i64 j ∧ j ≤ n ∧ Hid (acc.length = j) ∧ Hid (LocSt w wr b B Q 29 zeroMsg (rowMsg ⟨k, f, d, t, i, l, c, [], 0, 0, noConf, [], false, 0, x⟩ ev (.slice none 0 0) (.slice none 0 0) (.slice none 0 0)) v) ∧ Hid (wr.ownsRow (Q + 1) 40 4 ev acc.length (acc.flatMap rowE)) ∧ Hid (okMsg (match rdEnts (n - j) acc v with | .error z => .error z | .ok (es, s2) => .ok (⟨k, f, d, t, i, l, c, es, 0, 0, noConf, [], false, 0, x⟩, s2)) = res))
    (fun ct _ => n - (intOf ct).toNat)
  case atStart => exact ⟨0, [], u5, _, rfl, Nat.zero_le _, rfl, S6.out, World.ownsRow_nil _ _ _ _, HR6.out⟩
  case round =>
    obtain ⟨j, acc, v, ev, rfl, hj, hl, hst, hown, hm⟩ := hrel
    obtain ⟨ao, cp, rfl⟩ := owns_slice hown.out
    by_cases hlt : j < n
    · have hm2 := hm.out
      rw [show n - j = (n - (j + 1)) + 1 from by omega, rdEnts] at hm2
      have hqd : wr.drew.heap[Q]? = some (.cells (rowMsg ⟨k, f, d, t, i, l, c, [], 0, 0, noConf, [], false, 0, x⟩ (.slice ao acc.length cp) (.slice none 0 0) (.slice none 0 0) (.slice none 0 0)).toArray 29 (0, 0)) := hst.out.loc
      have d0 := cell_n hqd 7 (v := .slice ao acc.length cp) rfl
      have hrdd : Rd wr.drew b v := ⟨hst.out.rd.1, hst.out.rd.2⟩
      have KE : Hid (Calls Try.prog 26 #[.pointer (some ⟨b, 0, none⟩)] wr.drew (Gets b wr.drew vE (rdEnt v))) := entry_rd hrdd
      obtain ⟨i0, hi0, hz0, hz1, hz2⟩ := info_parts info_ent
      have Hm2 := Lib.hid hm2
      have hal : acc.length < 8 := by have := hl.out; omega
      have Hql : Hid (Q < wr.heap.size) := lt_of_block hst.out.loc
      have Hqb : Hid (some Q ≠ some b) := by show _ ≠ _; have := Hbw.out; have := HBQ.out; simp; omega
      clear hm2
      go_upto_region 13 with fail
      go_region_law (first
        | (go_simp; go_at_call 26; (with_reducible refine KE.out.mono ?_); intro e w1 hp; rcases hx : rdEnt v with z | ⟨y, t1⟩
           · (rw [hx] at hp; obtain ⟨rfl, hg⟩ := hp; have hR := Hm2.out; rw [hx] at hR; obtain rfl : .error z = res := hR; exact ⟨rfl, rfl, grown_trans (grown_drew hst.out.grown) hg⟩)
           rw [hx] at hp
           obtain ⟨rfl, hr, hg⟩ := hp
           have Hga := Lib.hid hg
           have hq1 := (hg.block Q Hql.out Hqb.out).trans hqd
           have c1 := cell_n hq1 7 (v := .slice ao acc.length cp) rfl
           have Hr3 := Lib.hid hr
           have own1 := Lib.hid (hown.out.drew.kept Hga.out (Or.inr (own_other hown.out (by have := Hbw.out; have := HBQ.out; omega)).symm))
           have hqw : Q < w1.heap.size := by have hs := Hga.out.size; have : wr.heap.size ≤ w1.heap.size := hs; have := Hql.out; omega
           have hR := Hm2.out
           rw [hx] at hR
           simp only [] at hR
           have Hm5 := Lib.hid hR
           clear hr hg hx hq1 hR)
        | (refine step_append_lies _ (by rfl) _ _ _ (by rfl) (Q + 1) 40 i0 _ 4 40 Try.underlying22 hi0 hz0 hz1 hz2 rfl (by omega) (.slice ao acc.length cp) acc.length (acc.flatMap rowE) (by rfl) (own1.out.alloc _)
            ⟨w1.heap.size, 0, none⟩ 1 1 (rowE (entOf y)) (by rfl) (by rfl) (World.news_of_block (cs := (rowE (entOf y)).toArray) (t := 40) (fr := (0, 0)) (heap_alloc_new w1 _)) (by simp [Value.oneCell'])
            (by omega) (by unfold maxLen; omega) (by omega) (by simp; omega) (w1.heap.size + 1) (by simp) ?_
           intro gg cap w4 hown4 hgrow hat hlt4
           have hps := LocSt.push (fi := 7) hst.out HwB.out Hbw.out HBQ.out Hr3.out Hga.out hown.out hgrow (.slice (some ⟨gg, 0, none⟩) (acc.length + 1) cap)
           have c4 := cell_n hps.1 7 (v := .slice ao acc.length cp) rfl
           have f4 := free_n hps.1 7
           have Hst2 := Lib.hid hps.2.1
           have Hown2 := Lib.hid (LocSt.setOwn hown4 7 (.slice (some ⟨gg, 0, none⟩) (acc.length + 1) cap))
           clear hps hown4 hgrow hat hlt4))
      all_goals
        clear c1 c4 f4 d0 hqd
        go_wp2_with fail
        go_roundw
        case rel => exact ⟨j + 1, acc ++ [entOf y], t1, _, by go_num, by omega, by have := hl.out; show _ = _; simp [this], Hst2, by
          have e1 : (acc ++ [entOf y]).length = acc.length + 1 := by simp
          have e2 : (acc ++ [entOf y]).flatMap rowE = acc.flatMap rowE ++ rowE (entOf y) := by simp
          rw [e1, e2]; exact Hown2, Hm5⟩
        case measure => simp [intOf]; omega
    · have hjm : j = n := by omega
      have e1 : okMsg (.ok (⟨k, f, d, t, i, l, c, acc, 0, 0, noConf, [], false, 0, x⟩, v)) = res := by rw [← hm.out, show n - j = 0 from by omega]; rfl
      have HR7 := Lib.hid e1
      have HEN : Hid (Ents (fun q => Q + 1 ≤ q) wr (.slice ao acc.length cp) acc) := OwnE.ents hown.out
      clear hjm e1
      go_wp2_with fail
      (refine HK.out _ _ _ _ _ _ _ _ _ _ _ _ _ _ _ _ _ _ _ _ _ _ _ _ _ _ _ _ _ _ _ _ _ _ _ _ _ _ _ _ _ _ _ _ _ _ _ _ _ _ _ _ _ _ _ _ _ _ _ _ _ _ _ _ ?_; exact ⟨⟨k, f, d, t, i, l, c, acc, 0, 0, noConf, [], false, 0, x⟩, .slice ao acc.length cp, (.slice none 0 0), (.slice none 0 0), (.slice none 0 0), _, hst.out, ⟨HEN.out, Config3F.nil _ _⟩, HR7.out⟩)
set_option maxHeartbeats 4000000 in
set_option maxRecDepth 100000 in
theorem getM_back {v1 v2 v4 v5 v6 v7 v8 v9 v10 v11 v12 v13 v15 v16 v17 v18 v19 v20 v21 v22 v23 v24 v25 v26 v27 v28 v29 v30 v31 v32 v33 v34 v35 v36 v37 v38 v39 v40 v41 v42 v43 v44 v45 v46 v47 v48 v49 v50 v51 v52 v53 v54 v55 v56 v57 v58 v59 v60 v61 v62 v63 v64 v65 v66 v67 v68 v69 v70 v71 v72 v73 v74 v75 v76 v77 v78 v79 v80 v81 v82 : Value} (k f d t : Nat) (u : List UInt8) (res : Res Msg) (S b B Q : Nat) (w W : World)
    (H : Hid (LocSt w W b B Q 29 zeroMsg (rowMsg (msg0 k f d t) (.slice none 0 0) (.slice none 0 0) (.slice none 0 0) (.slice none 0 0)) u)) (HwB : Hid (w.heap.size = B)) (Hbw : Hid (b < B)) (HBQ : Hid (B < Q)) (HR : Hid (okMsg (rdTail k f d t u) = res)) (hk : k = 6)
    (K : Act → World → Prop)
    (HK : Hid (∀ (u15 u16 u17 u18 u19 u20 u21 u22 u23 u24 u25 u26 u27 u28 u29 u30 u31 u32 u33 u34 u35 u36 u37 u38 u39 u40 u41 u42 u43 u44 u45 u46 u47 u48 u49 u50 u51 u52 u53 u54 u55 u56 u57 u58 u59 u60 u61 u62 u63 u64 u65 u66 u67 u68 u69 u70 u71 u72 u73 u74 u75 u76 u77 : Value) (wx : World), (∃ (m : Msg) (ev x y z : Value) (u' : List UInt8), LocSt w wx b B Q 29 zeroMsg (rowMsg m ev x y z) u' ∧ MsgF (Q + 1) wx ev x y z m ∧ okMsg (.ok (m, u')) = res) → K ⟨#[.pointer (some ⟨b, 0, none⟩), v1, v2, .pointer (some ⟨Q, 0, none⟩), v4, v5, v6, v7, v8, v9, v10, v11, v12, v13, .int .i64 (k : Nat), u15, u16, u17, u18, u19, u20, u21, u22, u23, u24, u25, u26, u27, u28, u29, u30, u31, u32, u33, u34, u35, u36, u37, u38, u39, u40, u41, u42, u43, u44, u45, u46, u47, u48, u49, u50, u51, u52, u53, u54, u55, u56, u57, u58, u59, u60, u61, u62, u63, u64, u65, u66, u67, u68, u69, u70, u71, u72, u73, u74, u75, u76, u77, v78, v79, v80, v81, v82], []⟩ wx)) :
    Code.wp Try.prog ((Try.f22.body.bind (blockAt 0)).getD .skip) (Exit.then K (bodyPost Try.prog Try.f22 (GetsMsg S b w res))) ⟨#[.pointer (some ⟨b, 0, none⟩), v1, v2, .pointer (some ⟨Q, 0, none⟩), v4, v5, v6, v7, v8, v9, v10, v11, v12, v13, .int .i64 (k : Nat), v15, v16, v17, v18, v19, v20, v21, v22, v23, v24, v25, v26, v27, v28, v29, v30, v31, v32, v33, v34, v35, v36, v37, v38, v39, v40, v41, v42, v43, v44, v45, v46, v47, v48, v49, v50, v51, v52, v53, v54, v55, v56, v57, v58, v59, v60, v61, v62, v63, v64, v65, v66, v67, v68, v69, v70, v71, v72, v73, v74, v75, v76, v77, v78, v79, v80, v81, v82], []⟩ W := by
  conv => arg 2; whnf
  have hk' := hk
  have t1 : ((k : Int) == 1) = false := beq_eq_false_iff_ne.2 (by omega)
  have t3 : ((k : Int) == 3) = false := beq_eq_false_iff_ne.2 (by omega)
  have t2 : ((k : Int) == 2) = false := beq_eq_false_iff_ne.2 (by omega)
  have t4 : ((k : Int) == 4) = false := beq_eq_false_iff_ne.2 (by omega)
  have t5 : ((k : Int) == 5) = false := beq_eq_false_iff_ne.2 (by omega)
  have t6 : ((k : Int) == 6) = true := by rw [hk]; rfl
  have hr0 : okMsg (rdBack k f d t u) = res := by rw [← HR.out, rdTail, if_neg (by omega), if_neg (by omega), if_neg (by omega), if_pos hk']
  rw [rdBack] at hr0
  have HR0 := Lib.hid hr0
  clear hr0 hk hk'
  go_wp2_with fail
  refine (number_rd H.out.rd).mono ?_
  intro e w1 hp
  cases hx : rdNum u with
  | error z =>
    rw [hx] at hp
    obtain rfl : .error z = res := by have hh := HR0.out; rw [hx] at hh; exact hh
    obtain ⟨rfl, hg⟩ := hp
    have Hge := Lib.hid (grown_trans H.out.grown hg)
    clear hg hx
    go_wp2_with fail
    exact ⟨rfl, rfl, Hge.out⟩
  | ok p =>
  obtain ⟨i, u1⟩ := p
  rw [hx] at hp
  have hrd := HR0.out
  rw [hx] at hrd
  simp only [] at hrd
  have HR1 := Lib.hid hrd
  obtain ⟨rfl, hr, hg⟩ := hp
  have S1 := Lib.hid (H.out.read Hbw.out HBQ.out hr hg)
  clear hr hg hx hrd
  go_wp2_with fail
  refine (flag_rd S1.out.rd).mono ?_
  intro e w2 hp
  cases hx : rdFlag u1 with
  | error z =>
    rw [hx] at hp
    obtain rfl : .error z = res := by have hh := HR1.out; rw [hx] at hh; exact hh
    obtain ⟨rfl, hg⟩ := hp
    have Hge := Lib.hid (grown_trans S1.out.grown hg)
    clear hg hx
    go_wp2_with fail
    exact ⟨rfl, rfl, Hge.out⟩
  | ok p =>
  obtain ⟨fl, u2⟩ := p
  rw [hx] at hp
  have hrd := HR1.out
  rw [hx] at hrd
  simp only [] at hrd
  have HR2 := Lib.hid hrd
  obtain ⟨rfl, hr, hg⟩ := hp
  have S2 := Lib.hid (S1.out.read Hbw.out HBQ.out hr hg)
  clear hr hg hx hrd
  go_wp2_with fail
  refine (number_rd S2.out.rd).mono ?_
  intro e w3 hp
  cases hx : rdNum u2 with
  | error z =>
    rw [hx] at hp
    obtain rfl : .error z = res := by have hh := HR2.out; rw [hx] at hh; exact hh
    obtain ⟨rfl, hg⟩ := hp
    have Hge := Lib.hid (grown_trans S2.out.grown hg)
    clear hg hx
    go_wp2_with fail
    exact ⟨rfl, rfl, Hge.out⟩
  | ok p =>
  obtain ⟨h, u3⟩ := p
  rw [hx] at hp
  have hrd := HR2.out
  rw [hx] at hrd
  simp only [] at hrd
  have HR3 := Lib.hid hrd
  obtain ⟨rfl, hr, hg⟩ := hp
  have S3 := Lib.hid (S2.out.read Hbw.out HBQ.out hr hg)
  clear hr hg hx hrd
  go_wp2_with fail
  refine (number_rd S3.out.rd).mono ?_
  intro e w4 hp
  cases hx : rdNum u3 with
  | error z =>
    rw [hx] at hp
    obtain rfl : .error z = res := by have hh := HR3.out; rw [hx] at hh; exact hh
    obtain ⟨rfl, hg⟩ := hp
    have Hge := Lib.hid (grown_trans S3.out.grown hg)
    clear hg hx
    go_wp2_with fail
    exact ⟨rfl, rfl, Hge.out⟩
  | ok p =>
  obtain ⟨x, u4⟩ := p
  rw [hx] at hp
  have hrd := HR3.out
  rw [hx] at hrd
  simp only [] at hrd
  have HR4 := Lib.hid hrd
  obtain ⟨rfl, hr, hg⟩ := hp
  have S4 := Lib.hid (S3.out.read Hbw.out HBQ.out hr hg)
  clear hr hg hx hrd
  have c4 := cell_n S4.out.loc 4 (v := .int .i64 0) rfl
  have f4 := free_n S4.out.loc 4
  have c14 := cell_n S4.out.loc 14 (v := .bool false) rfl
  have f14 := free_n S4.out.loc 14
  have c15 := cell_n S4.out.loc 15 (v := .int .i64 0) rfl
  have f15 := free_n S4.out.loc 15
  have c16 := cell_n S4.out.loc 16 (v := .int .i64 0) rfl
  have f16 := free_n S4.out.loc 16
  have HS := Lib.hid ((((S4.out.set HwB.out Hbw.out HBQ.out 4 (.int .i64 (i : Nat))).set HwB.out Hbw.out HBQ.out 14 (.bool fl)).set HwB.out Hbw.out HBQ.out 15 (.int .i64 (h : Nat))).set HwB.out Hbw.out HBQ.out 16 (.int .i64 (x : Nat)))
  go_wp2_with fail
  (refine HK.out _ _ _ _ _ _ _ _ _ _ _ _ _ _ _ _ _ _ _ _ _ _ _ _ _ _ _ _ _ _ _ _ _ _ _ _ _ _ _ _ _ _ _ _ _ _ _ _ _ _ _ _ _ _ _ _ _ _ _ _ _ _ _ _ ?_; exact ⟨⟨k, f, d, t, i, 0, 0, [], 0, 0, noConf, [], fl, h, x⟩, (.slice none 0 0), (.slice none 0 0), (.slice none 0 0), (.slice none 0 0), _, HS.out, ⟨ents_nil _ _, Config3F.nil _ _⟩, HR4.out⟩)
set_option maxHeartbeats 4000000 in
set_option maxRecDepth 100000 in
theorem getM_inst {v1 v2 v4 v5 v6 v7 v8 v9 v10 v11 v12 v13 v15 v16 v17 v18 v19 v20 v21 v22 v23 v24 v25 v26 v27 v28 v29 v30 v31 v32 v33 v34 v35 v36 v37 v38 v39 v40 v41 v42 v43 v44 v45 v46 v47 v48 v49 v50 v51 v52 v53 v54 v55 v56 v57 v58 v59 v60 v61 v62 v63 v64 v65 v66 v67 v68 v69 v70 v71 v72 v73 v74 v75 v76 v77 v78 v79 v80 v81 v82 : Value} (k f d t : Nat) (u : List UInt8) (res : Res Msg) (S b B Q : Nat) (w W : World)
    (H : Hid (LocSt w W b B Q 29 zeroMsg (rowMsg (msg0 k f d t) (.slice none 0 0) (.slice none 0 0) (.slice none 0 0) (.slice none 0 0)) u)) (HwB : Hid (w.heap.size = B)) (Hbw : Hid (b < B)) (HBQ : Hid (B < Q)) (HR : Hid (okMsg (rdTail k f d t u) = res)) (hk : k = 7)
    (K : Act → World → Prop)
    (HK : Hid (∀ (u15 u16 u17 u18 u19 u20 u21 u22 u23 u24 u25 u26 u27 u28 u29 u30 u31 u32 u33 u34 u35 u36 u37 u38 u39 u40 u41 u42 u43 u44 u45 u46 u47 u48 u49 u50 u51 u52 u53 u54 u55 u56 u57 u58 u59 u60 u61 u62 u63 u64 u65 u66 u67 u68 u69 u70 u71 u72 u73 u74 u75 u76 u77 : Value) (wx : World), (∃ (m : Msg) (ev x y z : Value) (u' : List UInt8), LocSt w wx b B Q 29 zeroMsg (rowMsg m ev x y z) u' ∧ MsgF (Q + 1) wx ev x y z m ∧ okMsg (.ok (m, u')) = res) → K ⟨#[.pointer (some ⟨b, 0, none⟩), v1, v2, .pointer (some ⟨Q, 0, none⟩), v4, v5, v6, v7, v8, v9, v10, v11, v12, v13, .int .i64 (k : Nat), u15, u16, u17, u18, u19, u20, u21, u22, u23, u24, u25, u26, u27, u28, u29, u30, u31, u32, u33, u34, u35, u36, u37, u38, u39, u40, u41, u42, u43, u44, u45, u46, u47, u48, u49, u50, u51, u52, u53, u54, u55, u56, u57, u58, u59, u60, u61, u62, u63, u64, u65, u66, u67, u68, u69, u70, u71, u72, u73, u74, u75, u76, u77, v78, v79, v80, v81, v82], []⟩ wx)) :
    Code.wp Try.prog ((Try.f22.body.bind (blockAt 0)).getD .skip) (Exit.then K (bodyPost Try.prog Try.f22 (GetsMsg S b w res))) ⟨#[.pointer (some ⟨b, 0, none⟩), v1, v2, .pointer (some ⟨Q, 0, none⟩), v4, v5, v6, v7, v8, v9, v10, v11, v12, v13, .int .i64 (k : Nat), v15, v16, v17, v18, v19, v20, v21, v22, v23, v24, v25, v26, v27, v28, v29, v30, v31, v32, v33, v34, v35, v36, v37, v38, v39, v40, v41, v42, v43, v44, v45, v46, v47, v48, v49, v50, v51, v52, v53, v54, v55, v56, v57, v58, v59, v60, v61, v62, v63, v64, v65, v66, v67, v68, v69, v70, v71, v72, v73, v74, v75, v76, v77, v78, v79, v80, v81, v82], []⟩ W := by
  conv => arg 2; whnf
  have hk' := hk
  have t1 : ((k : Int) == 1) = false := beq_eq_false_iff_ne.2 (by omega)
  have t3 : ((k : Int) == 3) = false := beq_eq_false_iff_ne.2 (by omega)
  have t2 : ((k : Int) == 2) = false := beq_eq_false_iff_ne.2 (by omega)
  have t4 : ((k : Int) == 4) = false := beq_eq_false_iff_ne.2 (by omega)
  have t5 : ((k : Int) == 5) = false := beq_eq_false_iff_ne.2 (by omega)
  have t6 : ((k : Int) == 6) = false := beq_eq_false_iff_ne.2 (by omega)
  have t7 : ((k : Int) == 7) = true := by rw [hk]; rfl
  have hr0 : okMsg (rdInst k f d t u) = res := by rw [← HR.out, rdTail, if_neg (by omega), if_neg (by omega), if_neg (by omega), if_neg (by omega), if_pos hk']
  rw [rdInst] at hr0
  have HR0 := Lib.hid hr0
  clear hr0 hk hk'
  go_wp2_with fail
  refine (number_rd H.out.rd).mono ?_
  intro e w1 hp
  cases hx : rdNum u with
  | error z =>
    rw [hx] at hp
    obtain rfl : .error z = res := by have hh := HR0.out; rw [hx] at hh; exact hh
    obtain ⟨rfl, hg⟩ := hp
    have Hge := Lib.hid (grown_trans H.out.grown hg)
    clear hg hx
    go_wp2_with fail
    exact ⟨rfl, rfl, Hge.out⟩
  | ok p =>
  obtain ⟨x, u1⟩ := p
  rw [hx] at hp
  have hrd := HR0.out
  rw [hx] at hrd
  simp only [] at hrd
  have HR1 := Lib.hid hrd
  obtain ⟨rfl, hr, hg⟩ := hp
  have S1 := Lib.hid (H.out.read Hbw.out HBQ.out hr hg)
  clear hr hg hx hrd
  have hq1 : Q + 1 ≤ w1.heap.size := lt_of_block S1.out.loc
  have Hq1 := Lib.hid hq1
  clear hq1
  go_wp2_with fail
  refine (snapshot_rd S1.out.rd).mono ?_
  intro e w2 hp
  cases hx : rdSnap u1 with
  | error z =>
    rw [hx] at hp
    obtain rfl : .error z = res := by have hh := HR1.out; rw [hx] at hh; exact hh
    obtain ⟨rfl, hg⟩ := hp
    have Hge := Lib.hid (grown_trans S1.out.grown hg)
    clear hg hx
    go_wp2_with fail
    exact ⟨rfl, rfl, Hge.out⟩
  | ok p =>
  obtain ⟨q, u2⟩ := p
  rw [hx] at hp
  have hrd := HR1.out
  rw [hx] at hrd
  simp only [] at hrd
  have HR2 := Lib.hid hrd
  obtain ⟨sx, sy, sz, rfl, hcf, hr, hg⟩ := hp
  have S2 := Lib.hid (S1.out.read Hbw.out HBQ.out hr hg)
  have HCF := Lib.hid (hcf.base Hq1.out)
  obtain ⟨a1, p1, rfl⟩ := hcf.v.len
  obtain ⟨a2, p2, rfl⟩ := hcf.n.len
  obtain ⟨a3, p3, rfl⟩ := hcf.l.len
  clear hr hg hx hrd hcf
  have hcf := HCF.out
  have hcf := hcf.up (Up.setCell (Q + 1) _ (a := ⟨Q, 16, none⟩) (by simp) (.int .i64 (x : Nat))) (Nat.le_refl _)
  have hcf := hcf.up (Up.setCell (Q + 1) _ (a := ⟨Q, 8, none⟩) (by simp) (.int .i64 (q.index : Nat))) (Nat.le_refl _)
  have hcf := hcf.up (Up.setCell (Q + 1) _ (a := ⟨Q, 9, none⟩) (by simp) (.int .i64 (q.term : Nat))) (Nat.le_refl _)
  have hcf := hcf.up (Up.setCell (Q + 1) _ (a := ⟨Q, 10, none⟩) (by simp) (.slice a1 q.conf.v.length p1)) (Nat.le_refl _)
  have hcf := hcf.up (Up.setCell (Q + 1) _ (a := ⟨Q, 11, none⟩) (by simp) (.slice a2 q.conf.n.length p2)) (Nat.le_refl _)
  have hcf := hcf.up (Up.setCell (Q + 1) _ (a := ⟨Q, 12, none⟩) (by simp) (.slice a3 q.conf.l.length p3)) (Nat.le_refl _)
  have hcf := hcf.up (Up.setCell (Q + 1) _ (a := ⟨Q, 13, none⟩) (by simp) (str q.data)) (Nat.le_refl _)
  have HCF2 := Lib.hid hcf
  clear hcf
  have c16 := cell_n S2.out.loc 16 (v := .int .i64 0) rfl
  have f16 := free_n S2.out.loc 16
  have c8 := cell_n S2.out.loc 8 (v := .int .i64 0) rfl
  have f8 := free_n S2.out.loc 8
  have c9 := cell_n S2.out.loc 9 (v := .int .i64 0) rfl
  have f9 := free_n S2.out.loc 9
  have c10 := cell_n S2.out.loc 10 (v := .slice none 0 0) rfl
  have f10 := free_n S2.out.loc 10
  have c11 := cell_n S2.out.loc 11 (v := .slice none 0 0) rfl
  have f11 := free_n S2.out.loc 11
  have c12 := cell_n S2.out.loc 12 (v := .slice none 0 0) rfl
  have f12 := free_n S2.out.loc 12
  have c13 := cell_n S2.out.loc 13 (v := .string ⟨#[]⟩) rfl
  have f13 := free_n S2.out.loc 13
  have HS := Lib.hid (((((((S2.out.set HwB.out Hbw.out HBQ.out 16 (.int .i64 (x : Nat))).set HwB.out Hbw.out HBQ.out 8 (.int .i64 (q.index : Nat))).set HwB.out Hbw.out HBQ.out 9 (.int .i64 (q.term : Nat))).set HwB.out Hbw.out HBQ.out 10 (.slice a1 q.conf.v.length p1)).set HwB.out Hbw.out HBQ.out 11 (.slice a2 q.conf.n.length p2)).set HwB.out Hbw.out HBQ.out 12 (.slice a3 q.conf.l.length p3)).set HwB.out Hbw.out HBQ.out 13 (str q.data))
  go_wp2_with fail
  (refine HK.out _ _ _ _ _ _ _ _ _ _ _ _ _ _ _ _ _ _ _ _ _ _ _ _ _ _ _ _ _ _ _ _ _ _ _ _ _ _ _ _ _ _ _ _ _ _ _ _ _ _ _ _ _ _ _ _ _ _ _ _ _ _ _ _ ?_; exact ⟨⟨k, f, d, t, 0, 0, 0, [], q.index, q.term, q.conf, q.data, false, 0, x⟩, (.slice none 0 0), (.slice a1 q.conf.v.length p1), (.slice a2 q.conf.n.length p2), (.slice a3 q.conf.l.length p3), _, HS.out, ⟨ents_nil _ _, HCF2.out⟩, HR2.out⟩)
set_option maxHeartbeats 4000000 in
set_option maxRecDepth 100000 in
theorem getM_none {v1 v2 v4 v5 v6 v7 v8 v9 v10 v11 v12 v13 v15 v16 v17 v18 v19 v20 v21 v22 v23 v24 v25 v26 v27 v28 v29 v30 v31 v32 v33 v34 v35 v36 v37 v38 v39 v40 v41 v42 v43 v44 v45 v46 v47 v48 v49 v50 v51 v52 v53 v54 v55 v56 v57 v58 v59 v60 v61 v62 v63 v64 v65 v66 v67 v68 v69 v70 v71 v72 v73 v74 v75 v76 v77 v78 v79 v80 v81 v82 : Value} (k f d t : Nat) (u : List UInt8) (res : Res Msg) (S b B Q : Nat) (w W : World)
    (H : Hid (LocSt w W b B Q 29 zeroMsg (rowMsg (msg0 k f d t) (.slice none 0 0) (.slice none 0 0) (.slice none 0 0) (.slice none 0 0)) u)) (HwB : Hid (w.heap.size = B)) (Hbw : Hid (b < B)) (HBQ : Hid (B < Q)) (HR : Hid (okMsg (rdTail k f d t u) = res)) (hk : ¬ (1 ≤ k ∧ k ≤ 7))
    (K : Act → World → Prop)
    (HK : Hid (∀ (u15 u16 u17 u18 u19 u20 u21 u22 u23 u24 u25 u26 u27 u28 u29 u30 u31 u32 u33 u34 u35 u36 u37 u38 u39 u40 u41 u42 u43 u44 u45 u46 u47 u48 u49 u50 u51 u52 u53 u54 u55 u56 u57 u58 u59 u60 u61 u62 u63 u64 u65 u66 u67 u68 u69 u70 u71 u72 u73 u74 u75 u76 u77 : Value) (wx : World), (∃ (m : Msg) (ev x y z : Value) (u' : List UInt8), LocSt w wx b B Q 29 zeroMsg (rowMsg m ev x y z) u' ∧ MsgF (Q + 1) wx ev x y z m ∧ okMsg (.ok (m, u')) = res) → K ⟨#[.pointer (some ⟨b, 0, none⟩), v1, v2, .pointer (some ⟨Q, 0, none⟩), v4, v5, v6, v7, v8, v9, v10, v11, v12, v13, .int .i64 (k : Nat), u15, u16, u17, u18, u19, u20, u21, u22, u23, u24, u25, u26, u27, u28, u29, u30, u31, u32, u33, u34, u35, u36, u37, u38, u39, u40, u41, u42, u43, u44, u45, u46, u47, u48, u49, u50, u51, u52, u53, u54, u55, u56, u57, u58, u59, u60, u61, u62, u63, u64, u65, u66, u67, u68, u69, u70, u71, u72, u73, u74, u75, u76, u77, v78, v79, v80, v81, v82], []⟩ wx)) :
    Code.wp Try.prog ((Try.f22.body.bind (blockAt 0)).getD .skip) (Exit.then K (bodyPost Try.prog Try.f22 (GetsMsg S b w res))) ⟨#[.pointer (some ⟨b, 0, none⟩), v1, v2, .pointer (some ⟨Q, 0, none⟩), v4, v5, v6, v7, v8, v9, v10, v11, v12, v13, .int .i64 (k : Nat), v15, v16, v17, v18, v19, v20, v21, v22, v23, v24, v25, v26, v27, v28, v29, v30, v31, v32, v33, v34, v35, v36, v37, v38, v39, v40, v41, v42, v43, v44, v45, v46, v47, v48, v49, v50, v51, v52, v53, v54, v55, v56, v57, v58, v59, v60, v61, v62, v63, v64, v65, v66, v67, v68, v69, v70, v71, v72, v73, v74, v75, v76, v77, v78, v79, v80, v81, v82], []⟩ W := by
  conv => arg 2; whnf
  have hk' := hk
  have t1 : ((k : Int) == 1) = false := beq_eq_false_iff_ne.2 (by omega)
  have t3 : ((k : Int) == 3) = false := beq_eq_false_iff_ne.2 (by omega)
  have t2 : ((k : Int) == 2) = false := beq_eq_false_iff_ne.2 (by omega)
  have t4 : ((k : Int) == 4) = false := beq_eq_false_iff_ne.2 (by omega)
  have t5 : ((k : Int) == 5) = false := beq_eq_false_iff_ne.2 (by omega)
  have t6 : ((k : Int) == 6) = false := beq_eq_false_iff_ne.2 (by omega)
  have t7 : ((k : Int) == 7) = false := beq_eq_false_iff_ne.2 (by omega)
  have hr0 : okMsg (.ok (msg0 k f d t, u)) = res := by rw [← HR.out, rdTail, if_neg (by omega), if_neg (by omega), if_neg (by omega), if_neg (by omega), if_neg (by omega)]
  have HR0 := Lib.hid hr0
  clear hr0 hk hk'
  go_wp2_with fail
  (refine HK.out _ _ _ _ _ _ _ _ _ _ _ _ _ _ _ _ _ _ _ _ _ _ _ _ _ _ _ _ _ _ _ _ _ _ _ _ _ _ _ _ _ _ _ _ _ _ _ _ _ _ _ _ _ _ _ _ _ _ _ _ _ _ _ _ ?_; exact ⟨msg0 k f d t, (.slice none 0 0), (.slice none 0 0), (.slice none 0 0), (.slice none 0 0), _, H.out, ⟨ents_nil _ _, Config3F.nil _ _⟩, HR0.out⟩)
end Go.Proofs.Ytkcllpbbjlbfaaa
