/-
  RlogExact: the law's walk.
-/
import Derived.Test.YtlknkhmhdmpdkaaLk
import Derived.Test.YtlknkhmhdmpdkaaLi
namespace Go.Proofs.Ytlknkhmhdmpdkaa
open Go.RowKit Wm Mm Lg
set_option linter.unusedVariables false
set_option linter.unusedSimpArgs false

/-- facts on blocks of a set -/
abbrev Fact : Type := (Nat → Prop) × (World → Prop)
def Fact.Good (q : Fact) : Prop := ∀ W W', Agree q.1 W W' → q.2 W → q.2 W'
structure KeepP (w W : World) (L : List Fact) : Prop where
  bel : Below w.heap.size w W
  all : ∀ q ∈ L, Fact.Good q ∧ q.2 W
theorem KeepP.nil (w : World) : KeepP w w [] := ⟨Below.refl _ _, fun _ h => by cases h⟩
theorem KeepP.step {w W W' : World} {L : List Fact} (h : KeepP w W L) (hb : Below W.heap.size W W') : KeepP w W' L :=
  ⟨h.bel.trans (hb.mono h.bel.size), fun q hq => ⟨(h.all q hq).1, (h.all q hq).1 W W' (Agree.below hb) (h.all q hq).2⟩⟩
theorem KeepP.stepG {w W W' : World} {L : List Fact} {v : Value} (h : KeepP w W L) (hg : W.grownBy W' v.ownBlock) (h1 : ∀ g, v.ownBlock = some g → w.heap.size ≤ g) (hL : ∀ g, v.ownBlock = some g → ∀ q ∈ L, ¬ q.1 g) : KeepP w W' L :=
  ⟨h.bel.trans ⟨hg.os, hg.tape, hg.output, hg.size, fun k hk => hg.block k (Nat.lt_of_lt_of_le hk h.bel.size) (fun e => by have := h1 k e.symm; omega)⟩,
   fun q hq => ⟨(h.all q hq).1, (h.all q hq).1 W W' (Agree.grown hg (fun k hk _ e => hL k e.symm q hq hk)) (h.all q hq).2⟩⟩
theorem KeepP.add {w W : World} {L : List Fact} (h : KeepP w W L) {q : Fact} (hs : Fact.Good q) (hq : q.2 W) : KeepP w W (q :: L) :=
  ⟨h.bel, fun p hp => by
    rcases List.mem_cons.1 hp with rfl | h1
    · exact ⟨hs, hq⟩
    · exact h.all p h1⟩
theorem KeepP.get {w W : World} {L : List Fact} (h : KeepP w W L) (i : Nat) {q : Fact} (hi : L[i]? = some q) : q.2 W := (h.all q (List.mem_of_getElem? hi)).2
theorem KeepP.drop {w W : World} {L : List Fact} (h : KeepP w W L) (n : Nat) : KeepP w W (L.drop n) := ⟨h.bel, fun q hq => h.all q (List.mem_of_mem_drop hq)⟩
def fBox (B : Nat) (cs : Array Value) (T : TypeId) : Fact := (fun k => k = B, fun W => W.heap[B]? = some (.cells cs T (0, 0)))
theorem fBox_good (B : Nat) (cs : Array Value) (T : TypeId) : (fBox B cs T).Good := fun W W' h hq => (h.2 B rfl (lt_of_block hq)).trans hq
def fEnts (F : Nat → Prop) (v : Value) (es : List EntP) : Fact := (F, fun W => Ents F W v es)
theorem fEnts_good (F : Nat → Prop) (v : Value) (es : List EntP) : (fEnts F v es).Good := fun W W' h hq => Sl.frame (Plain.good _) hq h
def fOwn (S T : Nat) (v : Value) (es : List EntP) : Fact := (fun k => S ≤ k ∧ k < T, fun W => OwnE S W v es ∧ (∀ g, v.ownBlock = some g → g < T) ∧ T ≤ W.heap.size)
theorem fOwn_good (S T : Nat) (v : Value) (es : List EntP) : (fOwn S T v es).Good := by
  intro W W' h ⟨h1, h2, h3⟩
  refine ⟨⟨h1.1, ?_⟩, h2, Nat.le_trans h3 h.1⟩
  rcases h1.2 with ⟨hv, h0⟩ | ⟨g, cap, cur, hv, hb, hg, hn, hc, hs, ht⟩
  · exact Or.inl ⟨hv, h0⟩
  · exact Or.inr ⟨g, cap, cur, hv, hb, (h.2 g ⟨hb, h2 g (by rw [hv]; rfl)⟩ (lt_of_block hg)).trans hg, hn, hc, hs, ht⟩
theorem KeepP.box {w W V : World} {L : List Fact} {cs : Array Value} {T : TypeId} {B : Nat} (h : KeepP w W L) (e : W.alloc (.cells cs T) = V) (hB : W.heap.size = B) : KeepP w V (fBox B cs T :: L) := by
  have hb : Below W.heap.size W V := by rw [← e]; exact (Below.refl _ _).alloc (Nat.le_refl _) _
  refine (h.step hb).add (fBox_good _ _ _) ?_
  show V.heap[B]? = _
  rw [← e, ← hB]; exact hp_at _ _ rfl
theorem ents_of_row {S : Nat} {W : World} {ao : Option Addr} {cap : Nat} {es : List EntP} (h : W.ownsRow S 56 4 (.slice ao (es.length + 1) cap) (es.length + 1) ((es ++ [e99]).flatMap rowE)) : Ents (fun k => S ≤ k ∧ k < W.heap.size) W (.slice ao (es.length + 1) cap) (es ++ [e99]) := by
  have hl : (es ++ [e99]).length = es.length + 1 := by simp
  rw [← hl] at h ⊢
  exact Sl.own rowE rowE_len h (fun _ _ => rfl) (fun g _ h1 h2 => ⟨h1, h2⟩)
theorem ents_cut {F : Nat → Prop} {W : World} {ao : Option Addr} {cap : Nat} {es : List EntP} (h : Ents F W (.slice ao (es.length + 1) cap) (es ++ [e99])) : Ents F W (.slice ao es.length cap) es := by
  have := Sl.take (k := es.length) h (by simp)
  simpa using this
abbrev e11 : EntP := ⟨1, 1, 0, []⟩
theorem known_len : (ext 0 0 [] 0 0 [e11]).es.length = 1 := by decide +kernel
theorem logB_len {base bt : Int} {es : List EntP} (h : logB base bt es = true) (hn : es.length ≤ 3518437208883) : es.length ≤ 1099511627775 := by
  have hk := logB_ok h hn
  rcases Nat.eq_zero_or_pos es.length with h0 | h0
  · omega
  · unfold logB allB at h
    simp only [Bool.and_eq_true] at h
    have h2 := List.all_eq_true.1 h.2 (es.length - 1) (List.mem_range.2 (by omega))
    rw [List.getElem?_eq_getElem (by omega : es.length - 1 < es.length)] at h2
    have h3 := hk.at_ (es.length - 1) (by omega)
    have h4 := hk.b0
    simp only [okAt, isEntry, inB, Bool.and_eq_true, decide_eq_true_eq] at h2
    have h5 := h2.1.1.2
    omega

theorem ext_len {base bt prev term : Int} {l es : List EntP} (hk : Ok base l) (hbh : Behind prev es) (hp0 : 0 ≤ prev) (hn : l.length + es.length ≤ 2199023255552) : (ext base bt l prev term es).es.length ≤ 2199023255552 := by
  have hs := skip_behind base es prev term hbh
  unfold ext
  simp only []
  split
  · show l.length ≤ _; omega
  · rename_i h1
    split
    · rename_i h2
      have h3 := termAt_ok (base := base) (bt := bt) (es := l) (i := (skip base prev term es).1) (by rw [h2])
      exact (put_ok (bt := bt) _ l _ hk h3.1 h3.2 hs.1 (by omega)).n
    · show l.length ≤ _; omega
theorem compact_len {base bt i : Int} {l : List EntP} : (compactOf base bt l i).es.length ≤ l.length := by
  unfold compactOf
  split
  · show (l.drop _).length ≤ _; rw [List.length_drop]; omega
  · exact Nat.zero_le _
theorem part_len {base fr most : Int} {l : List EntP} : (partOf base l fr most).1.length ≤ l.length := by
  unfold partOf
  repeat' split
  · exact Nat.zero_le _
  · exact Nat.zero_le _
  · exact Nat.zero_le _
  · show ((l.drop _).take _).length ≤ _; rw [List.length_take, List.length_drop]; omega
theorem KeepP.sub {w W : World} {L L' : List Fact} (h : KeepP w W L) (hs : ∀ q ∈ L', q ∈ L) : KeepP w W L' := ⟨h.bel, fun q hq => h.all q (hs q hq)⟩
theorem OwnE.lo {S : Nat} {W : World} {v : Value} {es : List EntP} (h : OwnE S W v es) {g : Nat} (hg : v.ownBlock = some g) : S ≤ g := (h.lt g hg).1

set_option maxHeartbeats 8000000 in
set_option maxRecDepth 100000 in
theorem law_rlogExact (base bt prev term most : Int) (ev ev2 : Value) (l es : List EntP) (F G : Nat → Prop) (w : World) (h : Ents F w ev l) (h2 : Ents G w ev2 es) (hl : l.length ≤ 3518437208780) (he : es.length ≤ 3518437208780) :
    Calls Try.prog 7 #[vLog base bt ev, .int .i64 prev, .int .i64 term, ev2, .int .i64 most] w fun e w' => e = .returned (.bool true) ∧ Below w.heap.size w w' := by
  obtain ⟨ao, cap, rfl, hcap, hmax⟩ := h.slice
  obtain ⟨ao2, cap2, rfl, hcap2, hmax2⟩ := h2.slice
  have h' := h.weak (G := fun k => k < w.heap.size) (Plain.good _) (fun k _ h => h)
  have h2' := h2.weak (G := fun k => k < w.heap.size) (Plain.good _) (fun k _ h => h)
  have hk0 := ((KeepP.nil w).add (fEnts_good _ _ _) h').add (fEnts_good _ _ _) h2'
  obtain ⟨V0, hV0⟩ := hide (w.alloc (.cells (oLog base bt (.slice ao l.length cap)) 52))
  obtain ⟨B0, hB0⟩ := hide w.heap.size
  rw [hB0.out] at hk0
  have H0 := Lib.hid (hk0.box hV0.out hB0.out)
  obtain ⟨ok1, hok1⟩ := hide (logB base bt l)
  obtain ⟨ok2, hok2⟩ := hide (logB prev term es)
  have KV : Hid (∀ w', Ents (fun k => k < B0) w' (.slice ao l.length cap) l → Calls Try.prog 35 #[vLog base bt (.slice ao l.length cap)] w' fun e w'' => e = .returned (.bool ok1) ∧ Below w'.heap.size w' w'') := fun w' h => by have := wire_valid base bt _ l _ w' h (by omega); rwa [hok1.out] at this
  have KI : Hid (∀ w', Ents (fun k => k < B0) w' (.slice ao l.length cap) l → Calls Try.prog 36 #[vLog base bt (.slice ao l.length cap)] w' fun e w'' => e = .returned (.bool ok1) ∧ Below w'.heap.size w' w'') := fun w' h => by have := ref_isLog base bt _ l _ w' h (by omega); rwa [hok1.out] at this
  have KI2 : Hid (∀ w', Ents (fun k => k < B0) w' (.slice ao2 es.length cap2) es → Calls Try.prog 36 #[vLog prev term (.slice ao2 es.length cap2)] w' fun e w'' => e = .returned (.bool ok2) ∧ Below w'.heap.size w' w'') := fun w' h => by have := ref_isLog prev term _ es _ w' h (by omega); rwa [hok2.out] at this
  have Hl := Lib.hid hl
  have He := Lib.hid he
  clear hk0 h h2 h' h2' hcap hcap2 hmax hmax2 hl he
  have x0 : V0.heap[B0]? = some (.cells (oLog base bt (.slice ao l.length cap)) 52 (0, 0)) := H0.out.get 0 rfl
  have c0 := cell_n x0 0 (v := .int .i64 base) rfl
  have c1 := cell_n x0 1 (v := .int .i64 bt) rfl
  have c2 := cell_n x0 2 (v := .slice ao l.length cap) rfl
  have Hx0 := Lib.hid x0
  clear x0
  go_enter Try.func7, Try.ntmps7
  go_upto_region 1 with fail
  rw [hV0.out, hB0.out]
  have C0 := fun (dd : Nat) (os : Array Obj) => cell_regrown c0 dd os
  have C1 := fun (dd : Nat) (os : Array Obj) => cell_regrown c1 dd os
  have C2 := fun (dd : Nat) (os : Array Obj) => cell_regrown c2 dd os
  have HbW : Hid (∀ d os, Below V0.heap.size V0 (Sort.grow (redrawn V0 d) os)) := fun d os => below_regrown V0 d os
  have HeW : Hid (∀ w', Below V0.heap.size V0 w' → Ents (fun k => k < B0) w' (.slice ao l.length cap) l) := fun w' hb => (H0.out.step hb).get (q := fEnts (fun k => k < B0) (.slice ao l.length cap) l) 2 rfl
  clear c0 c1 c2
  go_cut [55] (fun r wx => r = .bool false ∧ Hid (Below V0.heap.size V0 wx))
  case first =>
    refine wp_region_quiet_below (by kernel_rfl) (by kernel_rfl) ?_
    repeat (go_big_quiet_step (first | (go_at_call 35; with_reducible refine Calls.regrown_of (KV.out _ (HeW.out _ (HbW.out _ _)))) | (go_at_call 36; with_reducible refine Calls.regrown_of (KI.out _ (HeW.out _ (HbW.out _ _))))))
    refine wpQuiet_nil ?_
    intro _ hw'
    obtain ⟨⟨dq, osq⟩, hw''⟩ := hw'
    subst hw''
    go_wp2
    go_meet
    exact ⟨by simp, HbW.out dq osq⟩
  case rest =>
  obtain ⟨rfl, Hb1⟩ := hcut
  have H1 := Lib.hid (H0.out.step Hb1.out)
  clear C0 C1 C2
  obtain ⟨V2, hV2⟩ := hide (wc.alloc (.cells #[.int .i64 1, .int .i64 1, .int .i64 0, str []] 56))
  obtain ⟨B2, hB2⟩ := hide wc.heap.size
  have he1 : Ents (fun k => k = B2) V2 (.slice (some ⟨B2, 0, none⟩) 1 1) [e11] := by
    have hq : V2.heap[B2]? = some (.cells #[.int .i64 1, .int .i64 1, .int .i64 0, str []] 56 (0, 0)) := by rw [← hV2.out, ← hB2.out]; exact hp_at _ _ rfl
    refine ⟨some ⟨B2, 0, none⟩, 1, rfl, ⟨Nat.le_refl _, fun h => by cases h⟩, by decide, fun _ => ⟨B2, 0, rfl, rfl, lt_of_block hq, fun j y hj => ?_⟩⟩
    have hj0 : j = 0 := by
      rcases Nat.eq_zero_or_pos j with h | h
      · exact h
      · rw [List.getElem?_eq_none (by simp; omega)] at hj; cases hj
    subst hj0
    simp at hj
    subst hj
    refine ⟨rowE e11, rfl, rfl, fun i u hu => ?_⟩
    rw [show 0 + 0 * 4 + i = i from by omega]
    exact cell_n hq i (by simpa using hu)
  have H2 := Lib.hid (H1.out.step (show Below wc.heap.size wc V2 from by rw [← hV2.out]; exact (Below.refl _ _).alloc (Nat.le_refl _) _))
  have HX := Lib.hid (wire_extend 0 0 0 0 (.slice none 0 0) (.slice (some ⟨B2, 0, none⟩) 1 1) [] [e11] (fun _ => True) _ V2 (Sl.nil _ _ _ _) ⟨by decide, by decide, by decide, fun k hk => by simp at hk⟩ he1 (fun k hk => by
    have : k = 0 := by simp at hk; omega
    subst this; rfl) (by decide) (by decide) (by decide))
  obtain ⟨X, hX⟩ := hide (ext 0 0 [] 0 0 [e11])
  have hXl : X.es.length = 1 := by rw [← hX.out]; exact known_len
  rw [hX.out] at HX
  have HXl := Lib.hid hXl
  clear he1 hXl
  go_wp2_with fail
  rw [hV2.out, hB2.out]
  refine HX.out.mono ?_
  rintro e V3 ⟨v3, rfl, ho3, hbb⟩
  obtain ⟨a3, c3, rfl⟩ := owns_slice ho3
  rw [HXl.out]
  obtain ⟨V4, hV4⟩ := hide (V3.alloc (.cells (oLog 0 0 (.slice a3 1 c3)) 52))
  obtain ⟨B4, hB4⟩ := hide V3.heap.size
  have H4 := Lib.hid ((H2.out.step hbb).box hV4.out hB4.out)
  clear hbb ho3
  go_upto_region 4 with fail
  rw [hV4.out, hB4.out]
  have x0 := H4.out.get (q := fBox B0 #[.int .i64 base, .int .i64 bt, .slice ao l.length cap] 52) 1 rfl
  have c0 := cell_n x0 0 (v := .int .i64 base) rfl
  have c1 := cell_n x0 1 (v := .int .i64 bt) rfl
  have c2 := cell_n x0 2 (v := .slice ao l.length cap) rfl
  clear x0
  go_wp2_with fail
  refine (KI.out _ (H4.out.get (q := fEnts (fun k => k < B0) (.slice ao l.length cap) l) 3 rfl)).mono ?_
  rintro e V5 ⟨rfl, hbb⟩
  have H5 := Lib.hid (H4.out.step hbb)
  clear hbb c0 c1 c2
  go_wp2_with fail
  refine (KI2.out _ (H5.out.get (q := fEnts (fun k => k < B0) (.slice ao2 es.length cap2) es) 2 rfl)).mono ?_
  rintro e V6 ⟨rfl, hbb⟩
  have H6 := Lib.hid (H5.out.step hbb)
  clear hbb 
  have x0 := H6.out.get (q := fBox B4 #[.int .i64 0, .int .i64 0, .slice a3 1 c3] 52) 0 rfl
  have k0 := cell_n x0 0 (v := .int .i64 0) rfl
  have k1 := cell_n x0 1 (v := .int .i64 0) rfl
  have k2 := cell_n x0 2 (v := .slice a3 1 c3) rfl
  clear x0
  cases ok1 with
  | false =>
    go_wp2_with fail
    go_ret
    exact ⟨rfl, H6.out.bel⟩
  | true =>
  cases ok2 with
  | false =>
    go_wp2_with fail
    go_ret
    exact ⟨rfl, H6.out.bel⟩
  | true =>
  have hk1 := logB_ok hok1.out (by have := Hl.out; omega)
  have hk2 := logB_ok hok2.out (by have := He.out; omega)
  have hn1 := logB_len hok1.out (by have := Hl.out; omega)
  have hn2 := logB_len hok2.out (by have := He.out; omega)
  have Hk1 := Lib.hid hk1
  have Hbh : Hid (Behind prev es) := hk2.at_
  have hp0 := hk2.b0
  have hp1 := hk2.b1
  have Hn1 := Lib.hid hn1
  have Hn2 := Lib.hid hn2
  clear hk1 hk2 hn1 hn2
  have x0 := H6.out.get (q := fBox B0 #[.int .i64 base, .int .i64 bt, .slice ao l.length cap] 52) 1 rfl
  have c0 := cell_n x0 0 (v := .int .i64 base) rfl
  have c1 := cell_n x0 1 (v := .int .i64 bt) rfl
  have c2 := cell_n x0 2 (v := .slice ao l.length cap) rfl
  clear x0
  have KL := Lib.hid (law_logOf base bt _ l _ V6 (H6.out.get (q := fEnts (fun k => k < B0) (.slice ao l.length cap) l) 3 rfl) (by have := Hn1.out; omega))
  go_wp2_with fail
  refine KL.out.mono ?_
  rintro e V7 ⟨ax, cx, rfl, hox, hbb⟩
  clear c0 c1 c2 k0 k1 k2
  obtain ⟨Sx, hSx⟩ := hide V6.heap.size
  rw [hSx.out] at hox
  have hex := ents_of_row hox
  obtain ⟨Tx, hTx⟩ := hide V7.heap.size
  rw [hTx.out] at hex
  obtain ⟨V8, hV8⟩ := hide (V7.alloc (.cells (oLog base bt (.slice ax l.length cx)) 52))
  have hsx : w.heap.size ≤ Sx := by rw [← hSx.out]; exact H6.out.bel.size
  have hstx : Sx ≤ Tx := by rw [← hSx.out, ← hTx.out]; exact hbb.size
  have H8 := Lib.hid (((H6.out.step hbb).add (fEnts_good _ _ _) hex).box hV8.out hTx.out)
  have Hsx := Lib.hid hsx
  have Hstx := Lib.hid hstx
  clear hbb hox hex hsx hstx
  go_upto_region 9 with fail
  rw [hV8.out, hTx.out]
  have KE := Lib.hid (law_entries' _ es _ V8 (H8.out.get (q := fEnts (fun k => k < B0) (.slice ao2 es.length cap2) es) 4 rfl) (by have := Hn2.out; omega))
  go_wp2_with fail
  refine KE.out.mono ?_
  rintro e V9 ⟨ay, cy, rfl, hoy, hbb⟩
  obtain ⟨Sy, hSy⟩ := hide V8.heap.size
  rw [hSy.out] at hoy
  have hey := ents_of_row hoy
  obtain ⟨Ty, hTy⟩ := hide V9.heap.size
  rw [hTy.out] at hey
  have hsy : Tx + 1 ≤ Sy := by rw [← hSy.out, ← hV8.out, ← hTx.out]; simp
  have hsty : Sy ≤ Ty := by rw [← hSy.out, ← hTy.out]; exact hbb.size
  have H9 := Lib.hid ((H8.out.step hbb).add (fEnts_good _ _ _) hey)
  have Hsy := Lib.hid hsy
  have Hsty := Lib.hid hsty
  clear hbb hoy hey hsy hsty
  obtain ⟨X9, hX9⟩ := hide (ext base bt l prev term es)
  have x0 := (H9.out.get (q := fBox Tx #[.int .i64 base, .int .i64 bt, .slice ax l.length cx] 52) 1 rfl)
  have c0 := cell_n x0 0 (v := .int .i64 base) rfl
  have c1 := cell_n x0 1 (v := .int .i64 bt) rfl
  have c2 := cell_n x0 2 (v := .slice ax l.length cx) rfl
  clear x0
  have K10 := Lib.hid (wire_extend base bt prev term _ _ l es _ _ V9 (ents_cut (H9.out.get (q := fEnts (fun k => Sx ≤ k ∧ k < Tx) (.slice ax (l.length + 1) cx) (l ++ [e99])) 2 rfl)) Hk1.out (ents_cut (H9.out.get (q := fEnts (fun k => Sy ≤ k ∧ k < Ty) (.slice ay (es.length + 1) cy) (es ++ [e99])) 0 rfl)) Hbh.out hp0 hp1 (by have := Hn1.out; have := Hn2.out; omega))
  rw [hX9.out] at K10
  go_wp2_with fail
  refine (K10.out).mono ?_
  rintro e Va ⟨va, rfl, hoa, hbb⟩
  obtain ⟨aa, ca, rfl⟩ := owns_slice hoa
  obtain ⟨Sa, hSa⟩ := hide V9.heap.size
  rw [hSa.out] at hoa
  obtain ⟨Ta, hTa⟩ := hide Va.heap.size
  have hfa : OwnE Sa Va (.slice aa X9.es.length ca) X9.es ∧ (∀ g, (Value.slice aa X9.es.length ca).ownBlock = some g → g < Ta) ∧ Ta ≤ Va.heap.size := ⟨hoa, fun g hg => by rw [← hTa.out]; exact (hoa.lt g hg).2, by rw [hTa.out]; exact Nat.le_refl _⟩
  have hsa : Ty ≤ Sa := by rw [← hTy.out, ← hSa.out]; exact Nat.le_refl _
  have hsta : Sa ≤ Ta := by rw [← hSa.out, ← hTa.out]; exact hbb.size
  have hTaw : Ta ≤ Va.heap.size := by rw [hTa.out]; exact Nat.le_refl _
  obtain ⟨Vb, hVb⟩ := hide (Va.alloc (.cells #[.int .i64 base, .int .i64 bt, .slice aa X9.es.length ca] 52))
  have H11 := Lib.hid (((H9.out.step hbb).add (fOwn_good _ _ _ _) hfa).box hVb.out hTa.out)
  have Hsa := Lib.hid hsa
  have Hsta := Lib.hid hsta
  clear hbb hoa hfa hsa hsta hTaw c0 c1 c2
  go_upto_region 11 with fail
  rw [hVb.out, hTa.out]
  have x0 := (H11.out.get (q := fBox B0 #[.int .i64 base, .int .i64 bt, .slice ao l.length cap] 52) 6 rfl)
  have c0 := cell_n x0 0 (v := .int .i64 base) rfl
  have c1 := cell_n x0 1 (v := .int .i64 bt) rfl
  have c2 := cell_n x0 2 (v := .slice ao l.length cap) rfl
  clear x0
  have K11 := Lib.hid (ref_extend base bt prev term _ _ l es _ _ Vb (H11.out.get (q := fEnts (fun k => k < B0) (.slice ao l.length cap) l) 8 rfl) Hk1.out (H11.out.get (q := fEnts (fun k => k < B0) (.slice ao2 es.length cap2) es) 7 rfl) Hbh.out hp0 hp1 (by have := Hn1.out; have := Hn2.out; omega))
  rw [hX9.out] at K11
  go_wp2_with fail
  refine (K11.out).mono ?_
  rintro e Vc ⟨vc, rfl, hec, hbb⟩
  obtain ⟨ae, ce, rfl, _, _⟩ := hec.slice
  obtain ⟨Te, hTe⟩ := hide Vc.heap.size
  obtain ⟨Vd, hVd⟩ := hide (Vc.alloc (.cells #[.int .i64 base, .int .i64 bt, .slice ae X9.es.length ce] 52))
  have hbd : Below Vc.heap.size Vc Vd := by rw [← hVd.out]; exact (Below.refl _ _).alloc (Nat.le_refl _) _
  have hed := hec.frame (Plain.good _) (Agree.below hbd)
  have hqd : Vd.heap[Te]? = some (.cells #[.int .i64 base, .int .i64 bt, .slice ae X9.es.length ce] 52 (0, 0)) := by rw [← hVd.out, ← hTe.out]; exact hp_at _ _ rfl
  have H12 := Lib.hid ((H11.out.step hbb).step hbd)
  have K12 := Lib.hid (ref_sameLog base bt _ _ X9.es _ _ Vd (H12.out.get (q := fOwn Sa Ta (.slice aa X9.es.length ca) X9.es) 1 rfl).1.ents hed)
  have Hqd := Lib.hid hqd
  clear hbb hbd hec hed hqd c0 c1 c2
  go_upto_region 12 with fail
  rw [hVd.out, hTe.out]
  have x0 := (H12.out.get (q := fBox Ta #[.int .i64 base, .int .i64 bt, .slice aa X9.es.length ca] 52) 0 rfl)
  have c0 := cell_n x0 0 (v := .int .i64 base) rfl
  have c1 := cell_n x0 1 (v := .int .i64 bt) rfl
  have c2 := cell_n x0 2 (v := .slice aa X9.es.length ca) rfl
  clear x0
  have k0 := cell_n Hqd.out 0 (v := .int .i64 base) rfl
  have k1 := cell_n Hqd.out 1 (v := .int .i64 bt) rfl
  have k2 := cell_n Hqd.out 2 (v := .slice ae X9.es.length ce) rfl
  go_wp2_with fail
  refine (K12.out).mono ?_
  rintro e Ve ⟨rfl, hbb⟩
  have H13 := Lib.hid (H12.out.step hbb)
  clear hbb
  clear c0 c1 c2 k0 k1 k2
  obtain ⟨Y, hY⟩ := hide (compactOf base bt l prev)
  have x0 := (H13.out.get (q := fBox Tx #[.int .i64 base, .int .i64 bt, .slice ax l.length cx] 52) 3 rfl)
  have c0 := cell_n x0 0 (v := .int .i64 base) rfl
  have c1 := cell_n x0 1 (v := .int .i64 bt) rfl
  have c2 := cell_n x0 2 (v := .slice ax l.length cx) rfl
  clear x0
  have K13 := Lib.hid (wire_compact base bt prev _ l _ Ve (ents_cut (H13.out.get (q := fEnts (fun k => Sx ≤ k ∧ k < Tx) (.slice ax (l.length + 1) cx) (l ++ [e99])) 4 rfl)) Hk1.out (by omega) (by omega))
  rw [hY.out] at K13
  go_wp2_with fail
  refine (K13.out).mono ?_
  rintro e Vf ⟨vi, rfl, hoi, hbb⟩
  obtain ⟨ai, ci, rfl⟩ := owns_slice hoi
  obtain ⟨Si, hSi⟩ := hide Ve.heap.size
  rw [hSi.out] at hoi
  obtain ⟨Ti, hTi⟩ := hide Vf.heap.size
  have hfi : OwnE Si Vf (.slice ai Y.es.length ci) Y.es ∧ (∀ g, (Value.slice ai Y.es.length ci).ownBlock = some g → g < Ti) ∧ Ti ≤ Vf.heap.size := ⟨hoi, fun g hg => by rw [← hTi.out]; exact (hoi.lt g hg).2, by rw [hTi.out]; exact Nat.le_refl _⟩
  have hsi : Ta + 1 ≤ Si := by rw [← hSi.out]; exact lt_of_block (H13.out.get (q := fBox Ta #[.int .i64 base, .int .i64 bt, .slice aa X9.es.length ca] 52) 0 rfl)
  have hsti : Si ≤ Ti := by rw [← hSi.out, ← hTi.out]; exact hbb.size
  obtain ⟨Vg, hVg⟩ := hide (Vf.alloc (.cells #[.int .i64 Y.base, .int .i64 Y.bt, .slice ai Y.es.length ci] 52))
  have H14 := Lib.hid (((H13.out.step hbb).add (fOwn_good _ _ _ _) hfi).box hVg.out hTi.out)
  have Hsi := Lib.hid hsi
  have Hsti := Lib.hid hsti
  clear hbb hoi hfi hsi hsti c0 c1 c2
  go_upto_region 14 with fail
  rw [hVg.out, hTi.out]
  have x0 := (H14.out.get (q := fBox B0 #[.int .i64 base, .int .i64 bt, .slice ao l.length cap] 52) 8 rfl)
  have c0 := cell_n x0 0 (v := .int .i64 base) rfl
  have c1 := cell_n x0 1 (v := .int .i64 bt) rfl
  have c2 := cell_n x0 2 (v := .slice ao l.length cap) rfl
  clear x0
  have K14 := Lib.hid (ref_compact base bt prev _ l _ Vg (H14.out.get (q := fEnts (fun k => k < B0) (.slice ao l.length cap) l) 10 rfl) Hk1.out (by omega) (by omega))
  rw [hY.out] at K14
  go_wp2_with fail
  refine (K14.out).mono ?_
  rintro e Vh ⟨vk, rfl, hok, hbb⟩
  obtain ⟨ak, ck, rfl⟩ := owns_slice hok
  obtain ⟨Tk, hTk⟩ := hide Vh.heap.size
  obtain ⟨Vi, hVi⟩ := hide (Vh.alloc (.cells #[.int .i64 Y.base, .int .i64 Y.bt, .slice ak Y.es.length ck] 52))
  have hbd : Below Vh.heap.size Vh Vi := by rw [← hVi.out]; exact (Below.refl _ _).alloc (Nat.le_refl _) _
  have hed := hok.ents.frame (Plain.good _) (Agree.below hbd)
  have hqd : Vi.heap[Tk]? = some (.cells #[.int .i64 Y.base, .int .i64 Y.bt, .slice ak Y.es.length ck] 52 (0, 0)) := by rw [← hVi.out, ← hTk.out]; exact hp_at _ _ rfl
  have H15 := Lib.hid ((H14.out.step hbb).step hbd)
  have K15 := Lib.hid (ref_sameLog Y.base Y.bt _ _ Y.es _ _ Vi (H15.out.get (q := fOwn Si Ti (.slice ai Y.es.length ci) Y.es) 1 rfl).1.ents hed)
  have Hqk := Lib.hid hqd
  clear hbb hbd hok hed hqd c0 c1 c2
  go_upto_region 15 with fail
  rw [hVi.out, hTk.out]
  have x0 := (H15.out.get (q := fBox Ti #[.int .i64 Y.base, .int .i64 Y.bt, .slice ai Y.es.length ci] 52) 0 rfl)
  have c0 := cell_n x0 0 (v := .int .i64 Y.base) rfl
  have c1 := cell_n x0 1 (v := .int .i64 Y.bt) rfl
  have c2 := cell_n x0 2 (v := .slice ai Y.es.length ci) rfl
  clear x0
  have k0 := cell_n Hqk.out 0 (v := .int .i64 Y.base) rfl
  have k1 := cell_n Hqk.out 1 (v := .int .i64 Y.bt) rfl
  have k2 := cell_n Hqk.out 2 (v := .slice ak Y.es.length ck) rfl
  go_wp2_with fail
  refine (K15.out).mono ?_
  rintro e Vj ⟨rfl, hbb⟩
  have H16 := Lib.hid (H15.out.step hbb)
  clear hbb
  clear c0 c1 c2 k0 k1 k2
  obtain ⟨Z, hZ⟩ := hide (partOf base l prev most)
  have x0 := (H16.out.get (q := fBox Tx #[.int .i64 base, .int .i64 bt, .slice ax l.length cx] 52) 5 rfl)
  have c0 := cell_n x0 0 (v := .int .i64 base) rfl
  have c1 := cell_n x0 1 (v := .int .i64 bt) rfl
  have c2 := cell_n x0 2 (v := .slice ax l.length cx) rfl
  clear x0
  have K16 := Lib.hid (wire_slice base bt prev most _ l _ Vj (ents_cut (H16.out.get (q := fEnts (fun k => Sx ≤ k ∧ k < Tx) (.slice ax (l.length + 1) cx) (l ++ [e99])) 6 rfl)) Hk1.out (by omega) (by omega))
  rw [hZ.out] at K16
  go_wp2_with fail
  refine (K16.out).mono ?_
  rintro e Vk ⟨vn, rfl, hon, hbb⟩
  obtain ⟨an, cn, rfl⟩ := owns_slice hon
  obtain ⟨Sn, hSn⟩ := hide Vj.heap.size
  rw [hSn.out] at hon
  obtain ⟨Tn, hTn⟩ := hide Vk.heap.size
  have hfn : OwnE Sn Vk (.slice an Z.1.length cn) Z.1 ∧ (∀ g, (Value.slice an Z.1.length cn).ownBlock = some g → g < Tn) ∧ Tn ≤ Vk.heap.size := ⟨hon, fun g hg => by rw [← hTn.out]; exact (hon.lt g hg).2, by rw [hTn.out]; exact Nat.le_refl _⟩
  have hstn : Sn ≤ Tn := by rw [← hSn.out, ← hTn.out]; exact hbb.size
  have Hstn := Lib.hid hstn
  clear hstn
  have hsn : Ti + 1 ≤ Sn := by rw [← hSn.out]; exact lt_of_block (H16.out.get (q := fBox Ti #[.int .i64 Y.base, .int .i64 Y.bt, .slice ai Y.es.length ci] 52) 0 rfl)
  have H17 := Lib.hid ((H16.out.step hbb).add (fOwn_good _ _ _ _) hfn)
  have Hsn := Lib.hid hsn
  clear hbb hon hfn hsn c0 c1 c2
  have x0 := (H17.out.get (q := fBox B0 #[.int .i64 base, .int .i64 bt, .slice ao l.length cap] 52) 9 rfl)
  have c0 := cell_n x0 0 (v := .int .i64 base) rfl
  have c1 := cell_n x0 1 (v := .int .i64 bt) rfl
  have c2 := cell_n x0 2 (v := .slice ao l.length cap) rfl
  clear x0
  have K17 := Lib.hid (ref_slice base bt prev most _ l _ Vk (H17.out.get (q := fEnts (fun k => k < B0) (.slice ao l.length cap) l) 11 rfl) Hk1.out (by omega) (by omega))
  rw [hZ.out] at K17
  go_wp2_with fail
  refine (K17.out).mono ?_
  rintro e Vl ⟨vp, rfl, hop, hbb⟩
  obtain ⟨ap, cp9, rfl⟩ := owns_slice hop
  have hep := hop.ents
  have H18 := Lib.hid (H17.out.step hbb)
  clear hbb
  clear c0 c1 c2
  have K18 := Lib.hid (ref_sameEntries _ _ Z.1 _ _ Vl (H18.out.get (q := fOwn Sn Tn (.slice an Z.1.length cn) Z.1) 0 rfl).1.ents hep)
  clear hop hep
  go_wp2_with fail
  refine (K18.out).mono ?_
  rintro e Vm ⟨rfl, hbb⟩
  have H19 := Lib.hid (H18.out.step hbb)
  clear hbb
  obtain ⟨tu, htu⟩ := hide (termAt base bt l prev)
  obtain ⟨lt, hlt⟩ := hide (lastT bt l)
  obtain ⟨fb, hfb⟩ := hide (freshB base bt l prev term)
  have x0 := (H19.out.get (q := fBox Tx #[.int .i64 base, .int .i64 bt, .slice ax l.length cx] 52) 6 rfl)
  have c0 := cell_n x0 0 (v := .int .i64 base) rfl
  have c1 := cell_n x0 1 (v := .int .i64 bt) rfl
  have c2 := cell_n x0 2 (v := .slice ax l.length cx) rfl
  clear x0
  have KK := Lib.hid (wire_termAt base bt prev _ l _ Vm (ents_cut (H19.out.get (q := fEnts (fun k => Sx ≤ k ∧ k < Tx) (.slice ax (l.length + 1) cx) (l ++ [e99])) 7 rfl)) Hk1.out (by omega) (by omega))
  rw [htu.out] at KK
  go_wp2_with fail
  refine (KK.out).mono ?_
  rintro e Vn ⟨rfl, hbb⟩
  have H20 := Lib.hid (H19.out.step hbb)
  clear hbb
  clear c0 c1 c2 KK
  have x0 := (H20.out.get (q := fBox B0 #[.int .i64 base, .int .i64 bt, .slice ao l.length cap] 52) 9 rfl)
  have c0 := cell_n x0 0 (v := .int .i64 base) rfl
  have c1 := cell_n x0 1 (v := .int .i64 bt) rfl
  have c2 := cell_n x0 2 (v := .slice ao l.length cap) rfl
  clear x0
  have KK := Lib.hid (ref_termAt base bt prev _ l _ Vn (H20.out.get (q := fEnts (fun k => k < B0) (.slice ao l.length cap) l) 11 rfl) Hk1.out (by omega) (by omega))
  rw [htu.out] at KK
  go_wp2_with fail
  refine (KK.out).mono ?_
  rintro e Vo ⟨rfl, hbb⟩
  have H21 := Lib.hid (H20.out.step hbb)
  clear hbb
  clear c0 c1 c2 KK
  have x0 := (H21.out.get (q := fBox Tx #[.int .i64 base, .int .i64 bt, .slice ax l.length cx] 52) 6 rfl)
  have c0 := cell_n x0 0 (v := .int .i64 base) rfl
  have c1 := cell_n x0 1 (v := .int .i64 bt) rfl
  have c2 := cell_n x0 2 (v := .slice ax l.length cx) rfl
  clear x0
  have KK := Lib.hid (wire_last base bt _ l _ Vo (ents_cut (H21.out.get (q := fEnts (fun k => Sx ≤ k ∧ k < Tx) (.slice ax (l.length + 1) cx) (l ++ [e99])) 7 rfl)) Hk1.out)
  rw [hlt.out] at KK
  go_wp2_with fail
  refine (KK.out).mono ?_
  rintro e Vp ⟨rfl, hbb⟩
  have H22 := Lib.hid (H21.out.step hbb)
  clear hbb
  clear c0 c1 c2 KK
  have x0 := (H22.out.get (q := fBox B0 #[.int .i64 base, .int .i64 bt, .slice ao l.length cap] 52) 9 rfl)
  have c0 := cell_n x0 0 (v := .int .i64 base) rfl
  have c1 := cell_n x0 1 (v := .int .i64 bt) rfl
  have c2 := cell_n x0 2 (v := .slice ao l.length cap) rfl
  clear x0
  have KK := Lib.hid (ref_last base bt _ l _ Vp (H22.out.get (q := fEnts (fun k => k < B0) (.slice ao l.length cap) l) 11 rfl) Hk1.out)
  rw [hlt.out] at KK
  go_wp2_with fail
  refine (KK.out).mono ?_
  rintro e Vq ⟨rfl, hbb⟩
  have H23 := Lib.hid (H22.out.step hbb)
  clear hbb
  clear c0 c1 c2 KK
  have hXb : X9.es.length ≤ 2199023255552 := by rw [← hX9.out]; exact ext_len Hk1.out Hbh.out hp0 (by have := Hn1.out; have := Hn2.out; omega)
  have hYb : Y.es.length ≤ 1099511627775 := by rw [← hY.out]; exact Nat.le_trans compact_len Hn1.out
  have hZb : Z.1.length ≤ 1099511627775 := by rw [← hZ.out]; exact Nat.le_trans part_len Hn1.out
  have HXb := Lib.hid hXb
  have HYb := Lib.hid hYb
  have HZb := Lib.hid hZb
  clear hXb hYb hZb
  have KF1 : Hid (∀ w', Below Vq.heap.size Vq w' → Calls Try.prog 50 #[vLog base bt (.slice ax l.length cx), .int .i64 prev, .int .i64 term] w' fun e w'' => e = .returned (.bool fb) ∧ Below w'.heap.size w' w'') := fun w' hb => by
    have := wire_fresh base bt prev term _ l _ w' (ents_cut ((H23.out.step hb).get (q := fEnts (fun k => Sx ≤ k ∧ k < Tx) (.slice ax (l.length + 1) cx) (l ++ [e99])) 7 rfl)) Hk1.out
    rwa [hfb.out] at this
  have KF2 : Hid (∀ w', Below Vq.heap.size Vq w' → Calls Try.prog 51 #[vLog base bt (.slice ao l.length cap), .int .i64 prev, .int .i64 term] w' fun e w'' => e = .returned (.bool fb) ∧ Below w'.heap.size w' w'') := fun w' hb => by
    have := ref_fresh base bt prev term _ l _ w' ((H23.out.step hb).get (q := fEnts (fun k => k < B0) (.slice ao l.length cap) l) 11 rfl) Hk1.out
    rwa [hfb.out] at this
  have x0 := (H23.out.get (q := fBox Tx #[.int .i64 base, .int .i64 bt, .slice ax l.length cx] 52) 6 rfl)
  have c0 := cell_n x0 0 (v := .int .i64 base) rfl
  have c1 := cell_n x0 1 (v := .int .i64 bt) rfl
  have c2 := cell_n x0 2 (v := .slice ax l.length cx) rfl
  clear x0
  have x0 := (H23.out.get (q := fBox B0 #[.int .i64 base, .int .i64 bt, .slice ao l.length cap] 52) 9 rfl)
  have k0 := cell_n x0 0 (v := .int .i64 base) rfl
  have k1 := cell_n x0 1 (v := .int .i64 bt) rfl
  have k2 := cell_n x0 2 (v := .slice ao l.length cap) rfl
  clear x0
  have C0 := fun (dd : Nat) (os : Array Obj) => cell_regrown c0 dd os
  have C1 := fun (dd : Nat) (os : Array Obj) => cell_regrown c1 dd os
  have C2 := fun (dd : Nat) (os : Array Obj) => cell_regrown c2 dd os
  have K0 := fun (dd : Nat) (os : Array Obj) => cell_regrown k0 dd os
  have K1 := fun (dd : Nat) (os : Array Obj) => cell_regrown k1 dd os
  have K2 := fun (dd : Nat) (os : Array Obj) => cell_regrown k2 dd os
  have HbQ : Hid (∀ d os, Below Vq.heap.size Vq (Sort.grow (redrawn Vq d) os)) := fun d os => below_regrown Vq d os
  clear c0 c1 c2 k0 k1 k2
  go_upto_region 23 with fail
  go_cut [46] (fun r wx => r = .bool true ∧ Hid (Below Vq.heap.size Vq wx))
  case first =>
    refine wp_region_quiet_below (by kernel_rfl) (by kernel_rfl) ?_
    repeat (go_big_quiet_step (first | (go_at_call 50; with_reducible refine Calls.regrown_of (KF1.out _ (HbQ.out _ _))) | (go_at_call 51; with_reducible refine Calls.regrown_of (KF2.out _ (HbQ.out _ _)))))
    refine wpQuiet_nil ?_
    intro _ hw'
    obtain ⟨⟨dq, osq⟩, hw''⟩ := hw'
    subst hw''
    go_wp2
    go_meet
    exact ⟨by simp, HbQ.out dq osq⟩
  case rest =>
  obtain ⟨rfl, hbq⟩ := hcut
  clear C0 C1 C2 K0 K1 K2
  have H24 := Lib.hid (H23.out.step hbq.out)
  clear hbq
  have x0 := (H24.out.get (q := fBox Tx #[.int .i64 base, .int .i64 bt, .slice ax l.length cx] 52) 6 rfl)
  have c0 := cell_n x0 0 (v := .int .i64 base) rfl
  have c1 := cell_n x0 1 (v := .int .i64 bt) rfl
  have c2 := cell_n x0 2 (v := .slice ax l.length cx) rfl
  clear x0
  have x0 := (H24.out.get (q := fBox B0 #[.int .i64 base, .int .i64 bt, .slice ao l.length cap] 52) 9 rfl)
  have k0 := cell_n x0 0 (v := .int .i64 base) rfl
  have k1 := cell_n x0 1 (v := .int .i64 bt) rfl
  have k2 := cell_n x0 2 (v := .slice ao l.length cap) rfl
  clear x0
  have KK := Lib.hid (law_heldEntries ax cx _ l _ _ _ (H24.out.get (q := fEnts (fun k => Sx ≤ k ∧ k < Tx) (.slice ax (l.length + 1) cx) (l ++ [e99])) 7 rfl) (H24.out.get (q := fEnts (fun k => k < B0) (.slice ao l.length cap) l) 11 rfl))
  go_wp2_with fail
  refine (KK.out).mono ?_
  rintro e Vr ⟨rfl, hbb⟩
  have H25 := Lib.hid (H24.out.step hbb)
  clear hbb
  clear KK c0 c1 c2 k0 k1 k2
  have KK := Lib.hid (law_heldEntries ay cy _ es _ _ _ (H25.out.get (q := fEnts (fun k => Sy ≤ k ∧ k < Ty) (.slice ay (es.length + 1) cy) (es ++ [e99])) 5 rfl) (H25.out.get (q := fEnts (fun k => k < B0) (.slice ao2 es.length cap2) es) 10 rfl))
  go_wp2_with fail
  refine (KK.out).mono ?_
  rintro e Vs ⟨rfl, hbb⟩
  have H26 := Lib.hid (H25.out.step hbb)
  clear hbb
  clear KK
  have x0 := (H26.out.get (q := fBox Ta #[.int .i64 base, .int .i64 bt, .slice aa X9.es.length ca] 52) 3 rfl)
  have c0 := cell_n x0 0 (v := .int .i64 base) rfl
  have c1 := cell_n x0 1 (v := .int .i64 bt) rfl
  have c2 := cell_n x0 2 (v := .slice aa X9.es.length ca) rfl
  clear x0
  have ho9 := (H26.out.get (q := fOwn Sa Ta (.slice aa X9.es.length ca) X9.es) 4 rfl)
  have KK := Lib.hid (law_overEntries _ _ Sa _ _ ho9.1 (by have := HXb.out; omega) (by have := ho9.2.2; have o1 := Hsx.out; have o2 := Hstx.out; have o3 := Hsy.out; have o4 := Hsty.out; have o5 := Hsa.out; have o6 := Hsta.out; have o7 := Hsi.out; have o8 := Hsti.out; have o9 := Hsn.out; have o10 := Hstn.out; have o11 := hB0.out; omega))
  have hsub : KeepP w _ [fOwn Sn Tn (.slice an Z.1.length cn) Z.1, fBox Ti #[.int .i64 Y.base, .int .i64 Y.bt, .slice ai Y.es.length ci] 52, fOwn Si Ti (.slice ai Y.es.length ci) Y.es, fEnts (fun k => Sy ≤ k ∧ k < Ty) (.slice ay (es.length + 1) cy) (es ++ [e99]), fBox Tx #[.int .i64 base, .int .i64 bt, .slice ax l.length cx] 52, fEnts (fun k => Sx ≤ k ∧ k < Tx) (.slice ax (l.length + 1) cx) (l ++ [e99]), fBox B0 #[.int .i64 base, .int .i64 bt, .slice ao l.length cap] 52, fEnts (fun k => k < B0) (.slice ao2 es.length cap2) es, fEnts (fun k => k < B0) (.slice ao l.length cap) l] := H26.out.sub (fun q hq => by simp only [List.mem_cons, List.not_mem_nil, or_false] at hq ⊢; rcases hq with h | h | h | h | h | h | h | h | h <;> simp [h])
  have hfar : ∀ g, (Value.slice aa X9.es.length ca).ownBlock = some g → Sa ≤ g ∧ g < Ta := fun g hg => ⟨ho9.1.lo hg, ho9.2.1 g hg⟩
  have Hsub := Lib.hid hsub
  have Hfar := Lib.hid hfar
  clear ho9 hsub hfar
  go_wp2_with fail
  refine KK.out.mono ?_
  rintro e Vt ⟨rfl, hgg⟩
  have H27 := Lib.hid (Hsub.out.stepG hgg (fun g hg => by have := Hfar.out g hg; have o1 := Hsx.out; have o2 := Hstx.out; have o3 := Hsy.out; have o4 := Hsty.out; have o5 := Hsa.out; have o6 := Hsta.out; have o7 := Hsi.out; have o8 := Hsti.out; have o9 := Hsn.out; have o10 := Hstn.out; have o11 := hB0.out; omega) (fun g hg q hq => by
    have hh := Hfar.out g hg
    have o1 := Hsx.out; have o2 := Hstx.out; have o3 := Hsy.out; have o4 := Hsty.out; have o5 := Hsa.out; have o6 := Hsta.out; have o7 := Hsi.out; have o8 := Hsti.out; have o9 := Hsn.out; have o10 := Hstn.out; have o11 := hB0.out
    simp only [List.mem_cons, List.not_mem_nil, or_false] at hq
    rcases hq with rfl | rfl | rfl | rfl | rfl | rfl | rfl | rfl | rfl <;> simp only [fBox, fEnts, fOwn] <;> omega))
  clear hgg KK Hsub Hfar c0 c1 c2
  have x0 := (H27.out.get (q := fBox Ti #[.int .i64 Y.base, .int .i64 Y.bt, .slice ai Y.es.length ci] 52) 1 rfl)
  have c0 := cell_n x0 0 (v := .int .i64 Y.base) rfl
  have c1 := cell_n x0 1 (v := .int .i64 Y.bt) rfl
  have c2 := cell_n x0 2 (v := .slice ai Y.es.length ci) rfl
  clear x0
  have ho9 := (H27.out.get (q := fOwn Si Ti (.slice ai Y.es.length ci) Y.es) 2 rfl)
  have KK := Lib.hid (law_overEntries _ _ Si _ _ ho9.1 (by have := HYb.out; omega) (by have := ho9.2.2; have o1 := Hsx.out; have o2 := Hstx.out; have o3 := Hsy.out; have o4 := Hsty.out; have o5 := Hsa.out; have o6 := Hsta.out; have o7 := Hsi.out; have o8 := Hsti.out; have o9 := Hsn.out; have o10 := Hstn.out; have o11 := hB0.out; omega))
  have hsub : KeepP w _ [fOwn Sn Tn (.slice an Z.1.length cn) Z.1, fEnts (fun k => Sy ≤ k ∧ k < Ty) (.slice ay (es.length + 1) cy) (es ++ [e99]), fBox Tx #[.int .i64 base, .int .i64 bt, .slice ax l.length cx] 52, fEnts (fun k => Sx ≤ k ∧ k < Tx) (.slice ax (l.length + 1) cx) (l ++ [e99]), fBox B0 #[.int .i64 base, .int .i64 bt, .slice ao l.length cap] 52, fEnts (fun k => k < B0) (.slice ao2 es.length cap2) es, fEnts (fun k => k < B0) (.slice ao l.length cap) l] := H27.out.sub (fun q hq => by simp only [List.mem_cons, List.not_mem_nil, or_false] at hq ⊢; rcases hq with h | h | h | h | h | h | h <;> simp [h])
  have hfar : ∀ g, (Value.slice ai Y.es.length ci).ownBlock = some g → Si ≤ g ∧ g < Ti := fun g hg => ⟨ho9.1.lo hg, ho9.2.1 g hg⟩
  have Hsub := Lib.hid hsub
  have Hfar := Lib.hid hfar
  clear ho9 hsub hfar
  go_wp2_with fail
  refine KK.out.mono ?_
  rintro e Vu ⟨rfl, hgg⟩
  have H28 := Lib.hid (Hsub.out.stepG hgg (fun g hg => by have := Hfar.out g hg; have o1 := Hsx.out; have o2 := Hstx.out; have o3 := Hsy.out; have o4 := Hsty.out; have o5 := Hsa.out; have o6 := Hsta.out; have o7 := Hsi.out; have o8 := Hsti.out; have o9 := Hsn.out; have o10 := Hstn.out; have o11 := hB0.out; omega) (fun g hg q hq => by
    have hh := Hfar.out g hg
    have o1 := Hsx.out; have o2 := Hstx.out; have o3 := Hsy.out; have o4 := Hsty.out; have o5 := Hsa.out; have o6 := Hsta.out; have o7 := Hsi.out; have o8 := Hsti.out; have o9 := Hsn.out; have o10 := Hstn.out; have o11 := hB0.out
    simp only [List.mem_cons, List.not_mem_nil, or_false] at hq
    rcases hq with rfl | rfl | rfl | rfl | rfl | rfl | rfl <;> simp only [fBox, fEnts, fOwn] <;> omega))
  clear hgg KK Hsub Hfar c0 c1 c2
  have ho9 := (H28.out.get (q := fOwn Sn Tn (.slice an Z.1.length cn) Z.1) 0 rfl)
  have KK := Lib.hid (law_overEntries _ _ Sn _ _ ho9.1 (by have := HZb.out; omega) (by have := ho9.2.2; have o1 := Hsx.out; have o2 := Hstx.out; have o3 := Hsy.out; have o4 := Hsty.out; have o5 := Hsa.out; have o6 := Hsta.out; have o7 := Hsi.out; have o8 := Hsti.out; have o9 := Hsn.out; have o10 := Hstn.out; have o11 := hB0.out; omega))
  have hsub : KeepP w _ [fEnts (fun k => Sy ≤ k ∧ k < Ty) (.slice ay (es.length + 1) cy) (es ++ [e99]), fBox Tx #[.int .i64 base, .int .i64 bt, .slice ax l.length cx] 52, fEnts (fun k => Sx ≤ k ∧ k < Tx) (.slice ax (l.length + 1) cx) (l ++ [e99]), fBox B0 #[.int .i64 base, .int .i64 bt, .slice ao l.length cap] 52, fEnts (fun k => k < B0) (.slice ao2 es.length cap2) es, fEnts (fun k => k < B0) (.slice ao l.length cap) l] := H28.out.sub (fun q hq => by simp only [List.mem_cons, List.not_mem_nil, or_false] at hq ⊢; rcases hq with h | h | h | h | h | h <;> simp [h])
  have hfar : ∀ g, (Value.slice an Z.1.length cn).ownBlock = some g → Sn ≤ g ∧ g < Tn := fun g hg => ⟨ho9.1.lo hg, ho9.2.1 g hg⟩
  have Hsub := Lib.hid hsub
  have Hfar := Lib.hid hfar
  clear ho9 hsub hfar
  go_wp2_with fail
  refine KK.out.mono ?_
  rintro e Vv ⟨rfl, hgg⟩
  have H29 := Lib.hid (Hsub.out.stepG hgg (fun g hg => by have := Hfar.out g hg; have o1 := Hsx.out; have o2 := Hstx.out; have o3 := Hsy.out; have o4 := Hsty.out; have o5 := Hsa.out; have o6 := Hsta.out; have o7 := Hsi.out; have o8 := Hsti.out; have o9 := Hsn.out; have o10 := Hstn.out; have o11 := hB0.out; omega) (fun g hg q hq => by
    have hh := Hfar.out g hg
    have o1 := Hsx.out; have o2 := Hstx.out; have o3 := Hsy.out; have o4 := Hsty.out; have o5 := Hsa.out; have o6 := Hsta.out; have o7 := Hsi.out; have o8 := Hsti.out; have o9 := Hsn.out; have o10 := Hstn.out; have o11 := hB0.out
    simp only [List.mem_cons, List.not_mem_nil, or_false] at hq
    rcases hq with rfl | rfl | rfl | rfl | rfl | rfl <;> simp only [fBox, fEnts, fOwn] <;> omega))
  clear hgg KK Hsub Hfar
  have x0 := (H29.out.get (q := fBox Tx #[.int .i64 base, .int .i64 bt, .slice ax l.length cx] 52) 1 rfl)
  have c0 := cell_n x0 0 (v := .int .i64 base) rfl
  have c1 := cell_n x0 1 (v := .int .i64 bt) rfl
  have c2 := cell_n x0 2 (v := .slice ax l.length cx) rfl
  clear x0
  have x0 := (H29.out.get (q := fBox B0 #[.int .i64 base, .int .i64 bt, .slice ao l.length cap] 52) 3 rfl)
  have k0 := cell_n x0 0 (v := .int .i64 base) rfl
  have k1 := cell_n x0 1 (v := .int .i64 bt) rfl
  have k2 := cell_n x0 2 (v := .slice ao l.length cap) rfl
  clear x0
  have KK := Lib.hid (law_heldEntries ax cx _ l _ _ _ (H29.out.get (q := fEnts (fun k => Sx ≤ k ∧ k < Tx) (.slice ax (l.length + 1) cx) (l ++ [e99])) 2 rfl) (H29.out.get (q := fEnts (fun k => k < B0) (.slice ao l.length cap) l) 5 rfl))
  go_wp2_with fail
  refine (KK.out).mono ?_
  rintro e Vw ⟨rfl, hbb⟩
  have H30 := Lib.hid (H29.out.step hbb)
  clear hbb
  clear KK c0 c1 c2 k0 k1 k2
  have KK := Lib.hid (law_heldEntries ay cy _ es _ _ _ (H30.out.get (q := fEnts (fun k => Sy ≤ k ∧ k < Ty) (.slice ay (es.length + 1) cy) (es ++ [e99])) 0 rfl) (H30.out.get (q := fEnts (fun k => k < B0) (.slice ao2 es.length cap2) es) 4 rfl))
  go_wp2_with fail
  refine (KK.out).mono ?_
  rintro e Vx ⟨rfl, hbb⟩
  have H31 := Lib.hid (H30.out.step hbb)
  clear hbb
  clear KK
  go_wp2_with fail
  go_ret
  exact ⟨rfl, H31.out.bel⟩
end Go.Proofs.Ytlknkhmhdmpdkaa
