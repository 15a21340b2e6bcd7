/-
  A client as an object: wanting; an answer.
-/
import Derived.Test.YtckclacdmpcpbaaZd
namespace Go.Proofs.Ytckclacdmpcpbaa
open Go.RowKit Wm Mm Clt
set_option linter.unusedVariables false
set_option linter.unusedSimpArgs false

set_option maxHeartbeats 4000000 in
set_option maxRecDepth 100000 in
theorem want_law (c : CliP) (n : Nat) (x : CmdC) (w : World) (C : Nat) (h : CliX w C c) (ho : OkC n c) (hn1 : n ≤ 1073741824) (hx : isCommand x.kind x.key x.val x.iff = true) :
    Calls Try.prog 34 #[.pointer (some ⟨C, 0, none⟩), vCmd x.kind x.key x.val x.iff] w fun e w' => e = .returned (.int .i64 (wantC c x).2) ∧ CliX w' C (wantC c x).1 ∧ Chg (OnlyC C) w w' := by
  obtain ⟨post, HP⟩ := hide (fun (e : Ending) (w' : World) => e = .returned (.int .i64 (wantC c x).2) ∧ CliX w' C (wantC c x).1 ∧ Chg (OnlyC C) w w')
  rw [HP.out]
  obtain ⟨W, hW⟩ := hide (w.alloc (.cells #[.int .i64 x.kind, str x.key, str x.val, .int .i64 x.iff] 69))
  obtain ⟨b, hb⟩ := hide w.heap.size
  have HbW : Hid (Below w.heap.size w W) := by show Below _ _ _; rw [← hW.out]; exact (Below.refl _ _).alloc (Nat.le_refl _) _
  have HxW : Hid (W.heap[b]? = some (blkCmd x)) := by show _ = _; rw [← hW.out, ← hb.out]; exact hp_at _ _ rfl
  obtain ⟨W2, hW2⟩ := hide (W.alloc (.cells #[.int .i64 x.kind, str x.key, str x.val, .int .i64 x.iff] 69))
  have HbW2 : Hid (Below w.heap.size w W2) := by show Below _ _ _; rw [← hW2.out]; exact HbW.out.alloc HbW.out.size _
  have HxW2 : Hid (W2.heap[b]? = some (blkCmd x)) := by show _ = _; rw [← hW2.out]; exact (hp_past _ _ (Nat.ne_of_lt (lt_of_block HxW.out))).trans HxW.out
  have HX2 : Hid (CliX W2 C c) := h.new HbW2.out
  have HcW2 : Hid (Chg (OnlyC C) w W2) := Chg.fresh _ HbW2.out
  have K1 := Lib.hid (wire_isCommand x.kind x.key x.val x.iff W)
  rw [hx, hW2.out] at K1
  obtain ⟨g, cap, wv, rv, hB, hn, hw, hr⟩ := HX2.out.ex
  obtain ⟨c0, c1, c2, c3, c4, c5, c6, c7, c8, c9, c10⟩ := cliCells hB
  have x0 := cell_n HxW.out 0 (v := .int .i64 x.kind) rfl
  have x1 := cell_n HxW.out 1 (v := str x.key) rfl
  have x2 := cell_n HxW.out 2 (v := str x.val) rfl
  have x3 := cell_n HxW.out 3 (v := .int .i64 x.iff) rfl
  have f9 := free_n hB 9
  have f6 := free_n hB 6
  have f3 := free_n hB 3
  have hln := ho.last
  have hwr : IntKind.i64.wrap ((c.last : Int) + 1) = (c.last : Int) + 1 := IntWalk.i64_in _ (by omega)
  clear hx c0 c1 c2 c4 c7 c8
  by_cases hbusy : (c.want.isSome || c.res) = true
  · have e1 : wantC c x = (c, 21) := by unfold wantC; rw [if_pos hbusy]
    rw [e1] at HP
    have HE : Hid (post (.returned (.int .i64 21)) W2) := by show post _ _; rw [← HP.out]; exact ⟨rfl, HX2.out, HcW2.out⟩
    have hcase : (∃ p, wv = .pointer (some p)) ∨ (wv = .pointer none ∧ ∃ p, rv = .pointer (some p)) := by
      rcases wantX_isNone hw with ⟨h1, h2⟩ | ⟨b, q, h1, _⟩
      · refine Or.inr ⟨h1, ?_⟩
        rcases resX_isNone hr with ⟨_, h3⟩ | ⟨b, _, _, _, _, _, _, h3, _⟩
        · rw [h2, h3] at hbusy; cases hbusy
        · exact ⟨_, h3⟩
      · exact Or.inl ⟨_, h1⟩
    clear h ho hB hn hw hr hbusy e1
    rcases hcase with ⟨p, rfl⟩ | ⟨rfl, p, rfl⟩
    all_goals
      go_enter Try.func34, Try.ntmps34
      go_upto_region 1 with fail
      rw [hW.out, hb.out]
      go_wp2_with fail
      refine K1.out.mono ?_
      rintro e w2 ⟨rfl, rfl⟩
      go_wp2_with fail
      exact HE.out
  · have hw0 : c.want = none := by
      cases hq : c.want with
      | none => rfl
      | some q => rw [hq] at hbusy; simp at hbusy
    have hr0 : c.res = false := by
      cases hq : c.res with
      | false => rfl
      | true => rw [hq] at hbusy; simp at hbusy
    have e1 : wantC c x = ({ c with want := some x, first := c.last + 1, waits := false }, 0) := by unfold wantC; rw [if_neg hbusy]
    rw [e1] at HP
    rw [hw0] at hw
    rw [hr0] at hr
    have hw' : wv = .pointer none := hw
    have hr' : rv = .pointer none := hr
    subst hw' hr'
    have HE : Hid (post (.returned (.int .i64 0)) (((W2.setCell ⟨C, 9, none⟩ (.pointer (some ⟨b, 0, none⟩))).setCell ⟨C, 6, none⟩ (.int .i64 ((c.last : Int) + 1))).setCell ⟨C, 3, none⟩ (.bool false))) := by
      show post _ _
      rw [← HP.out]
      have hc : Chg (OnlyC C) W2 (((W2.setCell ⟨C, 9, none⟩ (.pointer (some ⟨b, 0, none⟩))).setCell ⟨C, 6, none⟩ (.int .i64 ((c.last : Int) + 1))).setCell ⟨C, 3, none⟩ (.bool false)) := (onlyC_set 9 _).trans ((onlyC_set 6 _).trans (onlyC_set 3 _))
      refine ⟨rfl, CliX.put (c' := { c with want := some x, first := c.last + 1, waits := false }) (wv' := .pointer (some ⟨b, 0, none⟩)) (rv' := .pointer none) hB hn hc rfl ?_ ⟨b, rfl, hc.at HxW2.out (notC hB HxW2.out (by decide))⟩ (by show ResX _ _ c.res; rw [hr0]; rfl), HcW2.out.trans hc⟩
      exact setWaits (setFirst (setWant hB (some x) (.pointer (some ⟨b, 0, none⟩))) (c.last + 1)) false
    clear h ho hB hn hw hr hbusy e1 hw0 hr0
    go_enter Try.func34, Try.ntmps34
    go_upto_region 1 with fail
    rw [hW.out, hb.out]
    go_wp2_with fail
    refine K1.out.mono ?_
    rintro e w2 ⟨rfl, rfl⟩
    go_wp2_with fail
    exact HE.out
abbrev vRes (k : Int) (s : List UInt8) (v : Int) (keys : Value) : Value := .agg #[.int .i64 k, str s, .int .i64 v, keys]
set_option maxHeartbeats 8000000 in
set_option maxRecDepth 100000 in
theorem answer_law (c : CliP) (n : Nat) (id e kind : Int) (s : List UInt8) (ver : Nat) (kv : Value) (keys : List (List UInt8)) (F : Nat → Prop) (w : World) (C : Nat) (h : CliX w C c) (ho : OkC n c) (hn1 : n ≤ 1073741824) (hk1 : 1 ≤ kind) (hk5 : kind ≤ 5) (hv : ver ≤ 50)
    (hkeys : Sl 1 (Plain rowT) F w kv keys) (hkl : keys.length ≤ 8796093022000) (hFC : ¬ F C) :
    Calls Try.prog 36 #[.pointer (some ⟨C, 0, none⟩), .int .i64 id, .int .i64 e, vRes kind s ver kv] w fun e' w' => e' = .returned (.tuple #[]) ∧ CliX w' C (answerC c id e kind ver) ∧ Chg (OnlyC C) w w' := by
  obtain ⟨post, HP⟩ := hide (fun (e' : Ending) (w' : World) => e' = .returned (.tuple #[]) ∧ CliX w' C (answerC c id e kind ver) ∧ Chg (OnlyC C) w w')
  rw [HP.out]
  obtain ⟨ka, kc, rfl, _, _⟩ := hkeys.slice
  obtain ⟨kn, hkn⟩ := hide keys.length
  obtain ⟨W, hW⟩ := hide (w.alloc (.cells #[.int .i64 kind, str s, .int .i64 ver, .slice ka kn kc] 82))
  obtain ⟨b, hb⟩ := hide w.heap.size
  have HbW : Hid (Below w.heap.size w W) := by show Below _ _ _; rw [← hW.out]; exact (Below.refl _ _).alloc (Nat.le_refl _) _
  have HxW : Hid (W.heap[b]? = some (.cells #[.int .i64 kind, str s, .int .i64 ver, .slice ka kn kc] 82 (0, 0))) := by show _ = _; rw [← hW.out, ← hb.out]; exact hp_at _ _ rfl
  have HX : Hid (CliX W C c) := h.new HbW.out
  have HcW : Hid (Chg (OnlyC C) w W) := Chg.fresh _ HbW.out
  have Hkeys : Hid (Sl 1 (Plain rowT) F W (.slice ka kn kc) keys) := by rw [← hkn.out]; exact hkeys.frame (Plain.good _) (Agree.below HbW.out)
  obtain ⟨g, cap, wv, rv, hB, hn, hw, hr⟩ := HX.out.ex
  obtain ⟨c0, c1, c2, c3, c4, c5, c6, c7, c8, c9, c10⟩ := cliCells hB
  rw [hkn.out]
  clear h hkeys c0 c1 c2 c4 c10
  cases hh : hearsC c id
  · have e1 : answerC c id e kind ver = c := by unfold answerC; rw [hh]; rfl
    rw [e1] at HP
    have HE : Hid (post (.returned (.tuple #[])) W) := by show post _ _; rw [← HP.out]; exact ⟨rfl, HX.out, HcW.out⟩
    unfold hearsC at hh
    rcases wantX_isNone hw with ⟨rfl, hq⟩ | ⟨p, q, rfl, hq, _⟩
    · clear hh hB hn hw hr e1 hq ho
      go_enter Try.func36, Try.ntmps36
      go_upto_region 1 with fail
      rw [hW.out, hb.out]
      go_wp2_with fail
      go_returns
      exact HE.out
    · rw [hq] at hh
      have hh' : (decide ((c.first : Int) ≤ id) && decide (id ≤ (c.last : Int))) = false := by simpa using hh
      by_cases h1 : id < (c.first : Int)
      · have t1 : decide (id < (c.first : Int)) = true := decide_eq_true h1
        clear hh hh' h1 hB hn hw hr e1 hq ho
        go_enter Try.func36, Try.ntmps36
        go_upto_region 1 with fail
        rw [hW.out, hb.out]
        go_wp2_with fail
        go_returns
        exact HE.out
      · have t1 : decide (id < (c.first : Int)) = false := decide_eq_false h1
        have t2 : decide ((c.last : Int) < id) = true := by
          rw [show decide ((c.first : Int) ≤ id) = true from decide_eq_true (by omega), Bool.true_and] at hh'
          have := of_decide_eq_false hh'
          exact decide_eq_true (by omega)
        clear hh hh' h1 hB hn hw hr e1 hq ho
        go_enter Try.func36, Try.ntmps36
        go_upto_region 1 with fail
        rw [hW.out, hb.out]
        go_wp2_with fail
        go_returns
        exact HE.out
  · obtain ⟨⟨q, hq⟩, hf, hl⟩ := hears_parts hh
    obtain ⟨p, rfl⟩ : ∃ p, wv = .pointer (some p) := by
      rcases wantX_isNone hw with ⟨_, h2⟩ | ⟨b, _, h1, _⟩
      · rw [hq] at h2; cases h2
      · exact ⟨_, h1⟩
    have t1 : decide (id < (c.first : Int)) = false := decide_eq_false (by omega)
    have t2 : decide ((c.last : Int) < id) = false := decide_eq_false (by omega)
    have hln := ho.last
    have hnn := ho.number
    have hbC : b ≠ C := notC hB HxW.out (by decide)
    have HbC := Lib.hid hbC
    by_cases he : e = 0
    rotate_left
    · have e0 : (e != 0) = true := by simp [he]
      have e0' : (e == 0) = false := by simp [he]
      have ea : answerC c id e kind ver = if id = c.last ∧ c.waits = true then stepC c else c := by unfold answerC; rw [if_pos hh, if_neg he]
      rw [ea] at HP
      by_cases h2 : id = (c.last : Int)
      · cases hwt : c.waits
        · have HE : Hid (post (.returned (.tuple #[])) W) := by show post _ _; rw [← HP.out, hwt, if_neg (by simp)]; exact ⟨rfl, HX.out, HcW.out⟩
          have t3 : (id == (c.last : Int)) = true := by simp [h2]
          rw [hwt] at c3
          clear hh he hB hn hw hr ea hq ho h2 hwt hf hl hbC
          go_enter Try.func36, Try.ntmps36
          go_upto_region 1 with fail
          rw [hW.out, hb.out]
          go_wp2_with fail
          go_returns
          exact HE.out
        · have t3 : (id == (c.last : Int)) = true := by simp [h2]
          have KS := Lib.hid (step_law c n W C HX.out ho)
          have HE : Hid (∀ w', CliX w' C (stepC c) → Chg (OnlyC C) W w' → post (.returned (.tuple #[])) w') := fun w' k1 k2 => by rw [← HP.out, hwt, if_pos ⟨h2, rfl⟩]; exact ⟨rfl, k1, HcW.out.trans k2⟩
          rw [hwt] at c3
          clear hh he hB hn hw hr ea hq ho h2 hwt hf hl hbC
          go_enter Try.func36, Try.ntmps36
          go_upto_region 1 with fail
          rw [hW.out, hb.out]
          go_wp2_with fail
          refine KS.out.mono ?_
          rintro e w2 ⟨rfl, hx2, hc2⟩
          have HE2 := Lib.hid (HE.out _ hx2 hc2)
          clear hx2 hc2
          go_wp2_with fail
          go_returns
          exact HE2.out
      · have HE : Hid (post (.returned (.tuple #[])) W) := by show post _ _; rw [← HP.out, if_neg (fun h => h2 h.1)]; exact ⟨rfl, HX.out, HcW.out⟩
        have t3 : (id == (c.last : Int)) = false := by simp [h2]
        clear hh he hB hn hw hr ea hq ho h2 hf hl hbC
        go_enter Try.func36, Try.ntmps36
        go_upto_region 1 with fail
        rw [hW.out, hb.out]
        go_wp2_with fail
        go_returns
        exact HE.out
    · subst he
      have ea : answerC c id 0 kind ver = (if c.session = 0 then (if kind = 1 then { c with waits := false, session := ver, number := 0, first := c.last + 1 } else { c with waits := false }) else { c with waits := false, number := c.number + 1, want := none, res := true }) := by unfold answerC; rw [if_pos hh, if_pos rfl]
      rw [ea] at HP
      have f3 := free_n hB 3
      have c3w := c3
      have hB3 := setWaits hB false
      have hc3 : Chg (OnlyC C) W (W.setCell ⟨C, 3, none⟩ (.bool false)) := onlyC_set 3 _
      obtain ⟨W3, hW3⟩ := hide (W.setCell ⟨C, 3, none⟩ (.bool false))
      rw [hW3.out] at hB3 hc3
      have HB3 := Lib.hid hB3
      have Hc3 := Lib.hid hc3
      have Hx3 : Hid (W3.heap[b]? = some (.cells #[.int .i64 kind, str s, .int .i64 ver, .slice ka kn kc] 82 (0, 0))) := hc3.at HxW.out hbC
      have Hn3 : Hid (World.ownsRow W3 0 3 1 (.slice (some ⟨g, 0, none⟩) c.m cap) c.m (nodesL c.m)) := own_notC hn hB (by decide) hc3
      have Hw3 : Hid (WantX W3 (.pointer (some p)) c.want) := hw.chg hB hc3
      have Hr3 : Hid (ResX W3 rv c.res) := hr.chg hB hc3
      have Hk3 : Hid (Sl 1 (Plain rowT) F W3 (.slice ka kn kc) keys) := Hkeys.out.frame (Plain.good _) (hc3.agree (fun k hk e => hFC (by have e' : k = C := e; rw [← e']; exact hk)))
      obtain ⟨d0, d1, d2, d3, d4, d5, d6, d7, d8, d9, d10⟩ := cliCells hB3
      have d5' : W3.cell? ⟨C, 5, none⟩ = some (.int .i64 (c.last : Int)) := d5
      have d6' : W3.cell? ⟨C, 6, none⟩ = some (.int .i64 (c.first : Int)) := d6
      have d7' : W3.cell? ⟨C, 7, none⟩ = some (.int .i64 (c.session : Int)) := d7
      have d8' : W3.cell? ⟨C, 8, none⟩ = some (.int .i64 (c.number : Int)) := d8
      have d9' := d9
      have d10' := d10
      have g6 := free_n hB3 6
      have g7 := free_n hB3 7
      have g8 := free_n hB3 8
      have y0 := cell_n Hx3.out 0 (v := .int .i64 kind) rfl
      have y2 := cell_n Hx3.out 2 (v := .int .i64 (ver : Int)) rfl
      have y3 := cell_n Hx3.out 3 (v := .slice ka kn kc) rfl
      clear d0 d1 d2 d3 d4 d5 d6 d7 d8 d9 d10
      have hwr : IntKind.i64.wrap ((c.last : Int) + 1) = (c.last : Int) + 1 := IntWalk.i64_in _ (by omega)
      have hwr2 : IntKind.i64.wrap ((c.number : Int) + 1) = (c.number : Int) + 1 := IntWalk.i64_in _ (by omega)
      have HFin : Hid (∀ (w' : World) (c' : CliP), answerC c id 0 kind ver = c' → Chg (OnlyC C) w w' → CliX w' C c' → post (.returned (.tuple #[])) w') := fun w' c' k1 k2 k3 => by
        rw [← HP.out, ← ea, k1]
        exact ⟨rfl, k3, k2⟩
      by_cases hs : c.session = 0
      · have s0 : ((c.session : Int) == 0) = true := by simp [hs]
        have s0' : (c.session == 0) = true := by simp [hs]
        by_cases hk : kind = 1
        · have k0 : (kind == 1) = true := by simp [hk]
          have HE : Hid (post (.returned (.tuple #[])) (((W3.setCell ⟨C, 7, none⟩ (.int .i64 (ver : Int))).setCell ⟨C, 8, none⟩ (.int .i64 0)).setCell ⟨C, 6, none⟩ (.int .i64 ((c.last : Int) + 1)))) := by
            have hc : Chg (OnlyC C) W3 (((W3.setCell ⟨C, 7, none⟩ (.int .i64 (ver : Int))).setCell ⟨C, 8, none⟩ (.int .i64 0)).setCell ⟨C, 6, none⟩ (.int .i64 ((c.last : Int) + 1))) := (onlyC_set 7 _).trans ((onlyC_set 8 _).trans (onlyC_set 6 _))
            refine HFin.out _ { c with waits := false, session := ver, number := 0, first := c.last + 1 } (by rw [ea, if_pos hs, if_pos hk]) (HcW.out.trans (Hc3.out.trans hc)) ?_
            refine CliX.put (c := { c with waits := false }) (c' := { c with waits := false, session := ver, number := 0, first := c.last + 1 }) HB3.out Hn3.out hc rfl ?_ (Hw3.out.chg HB3.out hc) (Hr3.out.chg HB3.out hc)
            exact setFirst (setNumber (setSession HB3.out ver) 0) (c.last + 1)
          clear hh hB hn hw hr ea hq ho hf hl hbC hs hk hB3 hc3
          go_enter Try.func36, Try.ntmps36
          go_upto_region 1 with fail
          rw [hW.out, hb.out]
          go_upto_region 6 with fail
          rw [hW3.out]
          clear c3 c3w c5 c6 c7 c8 c9 f3
          go_wp2_with fail
          go_returns
          exact HE.out
        · have k0 : (kind == 1) = false := by simp [hk]
          have HE : Hid (post (.returned (.tuple #[])) W3) := by
            refine HFin.out _ { c with waits := false } (by rw [ea, if_pos hs, if_neg hk]) (HcW.out.trans Hc3.out) ?_
            exact ⟨g, cap, _, rv, HB3.out, Hn3.out, Hw3.out, Hr3.out⟩
          clear hh hB hn hw hr ea hq ho hf hl hbC hs hk hB3 hc3
          go_enter Try.func36, Try.ntmps36
          go_upto_region 1 with fail
          rw [hW.out, hb.out]
          go_upto_region 6 with fail
          rw [hW3.out]
          clear c3 c3w c5 c6 c7 c8 c9 f3
          go_wp2_with fail
          go_returns
          exact HE.out
      · have s0 : ((c.session : Int) == 0) = false := by simp [hs]
        have s0' : (c.session == 0) = false := by simp [hs]
        have k6 : (kind == 6) = false := by simp; omega
        have k7 : (kind == 7) = false := by simp; omega
        have k8 : (kind == 8) = false := by simp; omega
        have HW4c : Hid (Chg (OnlyC C) W3 (W3.setCell ⟨C, 8, none⟩ (.int .i64 ((c.number : Int) + 1)))) := onlyC_set 8 _
        obtain ⟨W4, hW4⟩ := hide (W3.setCell ⟨C, 8, none⟩ (.int .i64 ((c.number : Int) + 1)))
        have HB4 : Hid (W4.heap[C]? = some (blkC (.slice (some ⟨g, 0, none⟩) c.m cap) { c with waits := false, number := c.number + 1 } (.pointer (some p)) rv)) := by show _ = _; rw [← hW4.out]; exact setNumber HB3.out (c.number + 1)
        rw [hW4.out] at HW4c
        have Hx4 : Hid (W4.heap[b]? = some (.cells #[.int .i64 kind, str s, .int .i64 ver, .slice ka kn kc] 82 (0, 0))) := HW4c.out.at Hx3.out hbC
        have Hn4 : Hid (World.ownsRow W4 0 3 1 (.slice (some ⟨g, 0, none⟩) c.m cap) c.m (nodesL c.m)) := own_notC Hn3.out HB3.out (by decide) HW4c.out
        have Hk4 : Hid (Sl 1 (Plain rowT) F W4 (.slice ka kn kc) keys) := Hk3.out.frame (Plain.good _) (HW4c.out.agree (fun k hk e => hFC (by have e' : k = C := e; rw [← e']; exact hk)))
        have KC := Lib.hid (clone_texts _ keys F W4 Hk4.out hkl)
        have Ea := Lib.hid (show answerC c id 0 kind ver = { c with waits := false, number := c.number + 1, want := none, res := true } by rw [ea, if_neg hs])
        have z0 := cell_n Hx4.out 0 (v := .int .i64 kind) rfl
        have z3 := cell_n Hx4.out 3 (v := .slice ka kn kc) rfl
        clear hh hB hn hw hr ea hq ho hf hl hbC hs hB3 hc3 hk1 hk5
        go_enter Try.func36, Try.ntmps36
        go_upto_region 1 with fail
        rw [hW.out, hb.out]
        go_upto_region 6 with fail
        rw [hW3.out]
        clear c3 c3w c5 c6 c7 c8 c9 f3
        go_upto_region 11 with fail
        rw [hW4.out]
        clear d5' d6' d7' d8' d9' d10' g6 g7 g8 y0 y2 y3
        go_wp2_with fail
        refine KC.out.mono ?_
        rintro e w5 ⟨v5, rfl, ho5, hb5⟩
        obtain ⟨a5, c5, rfl⟩ := owns_slice ho5
        have Hx5 : Hid (w5.heap[b]? = some (.cells #[.int .i64 kind, str s, .int .i64 ver, .slice ka kn kc] 82 (0, 0))) := (hb5.block b (lt_of_block Hx4.out)).trans Hx4.out
        have HB5 : Hid (w5.heap[C]? = some (blkC (.slice (some ⟨g, 0, none⟩) c.m cap) { c with waits := false, number := c.number + 1 } (.pointer (some p)) rv)) := (hb5.block C (lt_of_block HB4.out)).trans HB4.out
        have Hn5 : Hid (World.ownsRow w5 0 3 1 (.slice (some ⟨g, 0, none⟩) c.m cap) c.m (nodesL c.m)) := own_below Hn4.out hb5
        have Hb5 := Lib.hid hb5
        clear ho5 hb5 z0 z3
        have z3 := cell_n Hx5.out 3 (v := .slice ka kn kc) rfl
        have zf := free_n Hx5.out 3
        obtain ⟨W6, hW6⟩ := hide (w5.setCell ⟨b, 3, none⟩ (.slice a5 keys.length c5))
        have Hx6 : Hid (W6.heap[b]? = some (.cells #[.int .i64 kind, str s, .int .i64 ver, .slice a5 keys.length c5] 82 (0, 0))) := by show _ = _; rw [← hW6.out, heap_setCell, if_pos rfl, Hx5.out]; rfl
        have HB6 : Hid (W6.heap[C]? = some (blkC (.slice (some ⟨g, 0, none⟩) c.m cap) { c with waits := false, number := c.number + 1 } (.pointer (some p)) rv)) := by show _ = _; rw [← hW6.out, heap_setCell, if_neg HbC.out]; exact HB5.out
        have Hc6 : Hid (Chg (fun j => j = b) w5 W6) := by show Chg _ _ _; rw [← hW6.out]; exact Chg.setCell (F := fun j => j = b) (a := ⟨b, 3, none⟩) w5 rfl _
        have Hn6 : Hid (World.ownsRow W6 0 3 1 (.slice (some ⟨g, 0, none⟩) c.m cap) c.m (nodesL c.m)) := own_chg Hn5.out Hc6.out (fun j hj e => own_not_result Hn5.out Hx5.out (by have e' : j = b := e; rw [← e']; exact hj))
        have HcAll : Hid (Chg (OnlyC C) w W6) := chg_fresh (HcW.out.trans (Hc3.out.trans (HW4c.out.trans (Chg.fresh _ Hb5.out)))) (Nat.le_of_eq hb.out) Hc6.out
        go_upto_region 14 with fail
        rw [hW6.out]
        clear z3 zf
        obtain ⟨d0, d1, d2, d3, d4, d5, d6, d7, d8, d9, d10⟩ := cliCells HB6.out
        have g9 := free_n HB6.out 9
        have g10 := free_n HB6.out 10
        clear d0 d1 d2 d3 d4 d5 d6 d7 d8
        have HE : Hid (post (.returned (.tuple #[])) ((W6.setCell ⟨C, 9, none⟩ (.pointer none)).setCell ⟨C, 10, none⟩ (.pointer (some ⟨b, 0, none⟩)))) := by
          have hc : Chg (OnlyC C) W6 ((W6.setCell ⟨C, 9, none⟩ (.pointer none)).setCell ⟨C, 10, none⟩ (.pointer (some ⟨b, 0, none⟩))) := (onlyC_set 9 _).trans (onlyC_set 10 _)
          refine HFin.out _ { c with waits := false, number := c.number + 1, want := none, res := true } Ea.out (HcAll.out.trans hc) ?_
          refine CliX.put (c := { c with waits := false, number := c.number + 1 }) (c' := { c with waits := false, number := c.number + 1, want := none, res := true }) HB6.out Hn6.out hc rfl ?_ rfl ⟨b, kind, s, ver, a5, keys.length, c5, rfl, hc.at Hx6.out HbC.out⟩
          exact setRes (setWant HB6.out none (.pointer none)) true (.pointer (some ⟨b, 0, none⟩))
        go_wp2_with fail
        go_returns
        exact HE.out
end Go.Proofs.Ytckclacdmpcpbaa
