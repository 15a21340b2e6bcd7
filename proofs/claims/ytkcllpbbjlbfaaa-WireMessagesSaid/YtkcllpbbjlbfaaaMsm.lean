/-
  Reading messages: all bytes.
-/
import Derived.Test.YtkcllpbbjlbfaaaMsl
namespace Go.Proofs.Ytkcllpbbjlbfaaa
open Go.RowKit Wm Mm Lg
set_option linter.unusedVariables false
set_option linter.unusedSimpArgs false

theorem results_two_row {P : Program} {fn : Func} {p p2 : Tmp} {ty ty2 : TypeId} (h : fn.results = #[.cell p ty, .cell p2 ty2]) (tmps : Array Value) (w : World) (g g2 : Nat) (t : TypeId) (cs : Array Value) (fr : Nat × Nat) (d : TypeDesc) (x : Value)
    (hp : tmps.getD p undef = .pointer (some ⟨g, 0, none⟩)) (hp2 : tmps.getD p2 undef = .pointer (some ⟨g2, 0, none⟩)) (hg : w.heap[g]? = some (.cells cs t fr))
    (hu : P.underlying ty = some d) (hd : (match d with | .struct _ | .array _ _ => true | _ => false) = true) (hi : (P.info? ty).map (·.size) = some cs.size)
    (hx : (loadVar ty2 ⟨g2, 0, none⟩).run P w = .ok x w) :
    (results fn tmps).run P w = .ok (.tuple #[.agg cs, x]) w := by
  have hp' : tmps[p]?.getD undef = .pointer (some ⟨g, 0, none⟩) := by simpa using hp
  have hp2' : tmps[p2]?.getD undef = .pointer (some ⟨g2, 0, none⟩) := by simpa using hp2
  simp [results, h, hp', hp2', asAddr, run_loadVar_row w g t ty cs fr d hg hu hd hi, hx]
theorem load_errno {w : World} {g : Nat} {z : Int} (h : w.heap[g]? = some (.cells #[.int .i64 z] 31 (0, 0))) : (loadVar 31 ⟨g, 0, none⟩).run Try.prog w = .ok (.int .i64 z) w := by
  have c99 := cell_of_one h
  simp [go_sem, c99]
/-- what a reading of all bytes hands back -/
def GotMsg (w : World) (res : Except Int Msg) (e : Ending) (w' : World) : Prop :=
  match res with
  | .ok q => ∃ ev x y z, e = .returned (.tuple #[vMsg q ev x y z, .int .i64 0]) ∧ MsgF w.heap.size w' ev x y z q ∧ Below w.heap.size w w'
  | .error z => e = .returned (.tuple #[.agg zeroMsg.toArray, .int .i64 z]) ∧ Below w.heap.size w w'

set_option maxHeartbeats 8000000 in
set_option maxRecDepth 100000 in
theorem read_msg (s : List UInt8) (w : World) (hs : s.length ≤ 9223372036854775807) :
    Calls Try.prog 21 #[str s, .func (.func 22) #[] #[]] w (GotMsg w (full (rdMsg s))) := by
  have hmf : ∀ (fn : Fn) (first cap : Array Value) (w : World), (Instr.makeFunc fn first cap).run Try.prog w = .ok (.func fn first cap) w := fun _ _ _ _ => rfl
  obtain ⟨res, HR⟩ := hide (rdMsg s)
  rw [HR.out]
  go_enter_defers Try.func21, Try.ntmps21
  go_wp2_with fail
  obtain ⟨W3, hW⟩ := hide (((w.alloc (.cells zeroMsg.toArray 29)).alloc (.cells #[.int .i64 0] 31)).alloc (.cells #[str s] 82))
  rw [hW.out]
  have Hx : Hid (W3.heap[w.heap.size]? = some (.cells zeroMsg.toArray 29 (0, 0))) := by
    show _ = _
    rw [← hW.out]; exact (hp_past _ _ (by simp only [World.size_alloc]; omega)).trans ((hp_past _ _ (by simp only [World.size_alloc]; omega)).trans (hp_at _ _ rfl))
  have He : Hid (W3.heap[w.heap.size + 1]? = some (.cells #[.int .i64 0] 31 (0, 0))) := by
    show _ = _
    rw [← hW.out]; exact (hp_past _ _ (by simp only [World.size_alloc]; omega)).trans (hp_at _ _ (by simp only [World.size_alloc]))
  have Hr : Hid (Rd W3 (w.heap.size + 1 + 1) s) := by
    show Rd _ _ _
    rw [← hW.out]; exact ⟨hp_at _ _ (by simp only [World.size_alloc]), hs⟩
  have Hb : Hid (Below w.heap.size w W3) := by
    show Below _ _ _
    rw [← hW.out]
    exact (((Below.refl _ _).alloc (Nat.le_refl _) _).alloc (by simp) _).alloc (by simp; omega) _
  have hsz : W3.heap.size = w.heap.size + 3 := by rw [← hW.out]; simp
  have Hsz := Lib.hid hsz
  refine (getMessage_f Hr.out).mono ?_
  rw [HR.out]
  clear hsz
  intro e w1 hp
  cases res with
  | error z =>
    obtain ⟨rfl, hg⟩ := hp
    have hx1 := (hg.block w.heap.size (by rw [Hsz.out]; omega) (by simp; omega)).trans Hx.out
    have he1 := (hg.block (w.heap.size + 1) (by rw [Hsz.out]; omega) (by simp)).trans He.out
    have hb1 : Below w.heap.size w w1 := Hb.out.trans ⟨hg.os, hg.tape, hg.output, hg.size, fun k hk => hg.block k (by rw [Hsz.out]; omega) (by simp; omega)⟩
    have Hx1 := Lib.hid hx1
    have He1 := Lib.hid he1
    have Hb1 := Lib.hid hb1
    clear hg hx1 he1 hb1
    go_wp2_with fail
    refine leaves_cons (f := 49) (args := #[.pointer (some ⟨w.heap.size, 0, none⟩), .pointer (some ⟨w.heap.size + 1, 0, none⟩)]) (by simp) (by simp [go_sem]) ?_
    refine (catch_msg w.heap.size _ _ _ _ _ _ _ _ _ _ _ _ _ _ _ _ _ 0 z w1 Hx1.out He1.out).mono ?_
    rintro e u' w2 ⟨rfl, rfl, hx2, he2, hb2⟩
    exact ⟨_, results_two_row rfl _ w2 w.heap.size (w.heap.size + 1) 29 zeroMsg.toArray (0, 0) _ (.int .i64 z) rfl rfl hx2 Try.underlying29 rfl size_msg (load_errno he2), rfl, Hb1.out.trans hb2⟩
  | ok p =>
    obtain ⟨q, t⟩ := p
    obtain ⟨ev, x, y, z, rfl, hcf, hr1, hg⟩ := hp
    obtain ⟨ae, cpe, rfl, _, _⟩ := hcf.e.slice
    obtain ⟨ao1, cp1, rfl⟩ := hcf.c.v.len
    obtain ⟨ao2, cp2, rfl⟩ := hcf.c.n.len
    obtain ⟨ao3, cp3, rfl⟩ := hcf.c.l.len
    have hx1 := (hg.block w.heap.size (by rw [Hsz.out]; omega) (by simp; omega)).trans Hx.out
    have he1 := (hg.block (w.heap.size + 1) (by rw [Hsz.out]; omega) (by simp)).trans He.out
    have hb1 : Below w.heap.size w w1 := Hb.out.trans ⟨hg.os, hg.tape, hg.output, hg.size, fun k hk => hg.block k (by rw [Hsz.out]; omega) (by simp; omega)⟩
    have hx2 := setAll_at hx1 (rowMsg q (.slice ae q.ents.length cpe) (.slice ao1 q.sc.v.length cp1) (.slice ao2 q.sc.n.length cp2) (.slice ao3 q.sc.l.length cp3)) rfl
    have he2 := setAll_other (b := w.heap.size) he1 (by omega) (rowMsg q (.slice ae q.ents.length cpe) (.slice ao1 q.sc.v.length cp1) (.slice ao2 q.sc.n.length cp2) (.slice ao3 q.sc.l.length cp3))
    have hb2 := setAll_below hb1 (Nat.le_refl _) (rowMsg q (.slice ae q.ents.length cpe) (.slice ao1 q.sc.v.length cp1) (.slice ao2 q.sc.n.length cp2) (.slice ao3 q.sc.l.length cp3))
    have hr2 := setAll_other (b := w.heap.size) hr1.1 (by omega) (rowMsg q (.slice ae q.ents.length cpe) (.slice ao1 q.sc.v.length cp1) (.slice ao2 q.sc.n.length cp2) (.slice ao3 q.sc.l.length cp3))
    have hcf2 := hcf.up (w' := setAll w1 w.heap.size (rowMsg q (.slice ae q.ents.length cpe) (.slice ao1 q.sc.v.length cp1) (.slice ao2 q.sc.n.length cp2) (.slice ao3 q.sc.l.length cp3))) (S' := w.heap.size + 1) (Up.setAll _ w1 (Nat.lt_succ_self _) _) (by rw [Hsz.out]; omega)
    have hth : w1.there w.heap.size 0 17 := there_of hx1
    have Hth := Lib.hid hth
    have Hcf2 := Lib.hid hcf2
    have Hx2 := Lib.hid hx2
    have He2 := Lib.hid he2
    have Hb2 := Lib.hid hb2
    have Hr2 := Lib.hid hr2
    clear hg hx1 he1 hb1 hx2 he2 hb2 hr1 hr2 hcf hcf2 hth
    dsimp only
    go_step
    refine wpList_store_mid rfl 29 (.tmp 4) (.tmp 13) rfl w.heap.size 0 (rowMsg q (.slice ae q.ents.length cpe) (.slice ao1 q.sc.v.length cp1) (.slice ao2 q.sc.n.length cp2) (.slice ao3 q.sc.l.length cp3)).toArray rfl rfl Hth.out size_msg (by simp [Value.oneCell']) ?_
    rw [setCells_eq]
    show wpList _ _ _ [] _ (setAll w1 w.heap.size (rowMsg q (.slice ae q.ents.length cpe) (.slice ao1 q.sc.v.length cp1) (.slice ao2 q.sc.n.length cp2) (.slice ao3 q.sc.l.length cp3)))
    obtain ⟨W5, hW5⟩ := hide (setAll w1 w.heap.size (rowMsg q (.slice ae q.ents.length cpe) (.slice ao1 q.sc.v.length cp1) (.slice ao2 q.sc.n.length cp2) (.slice ao3 q.sc.l.length cp3)))
    rw [hW5.out] at Hx2 He2 Hb2 Hr2 Hcf2 ⊢
    have cr := cell_of_one Hr2.out
    cases t with
    | cons y t =>
      go_wp2_with (go_at_call 28; refine (fail_any _ _).mono ?_; rintro e w' ⟨rfl, rfl⟩)
      refine leaves_cons (f := 49) (args := #[.pointer (some ⟨w.heap.size, 0, none⟩), .pointer (some ⟨w.heap.size + 1, 0, none⟩)]) (by simp) (by simp [go_sem]) ?_
      refine (catch_msg w.heap.size _ _ _ _ _ _ _ _ _ _ _ _ _ _ _ _ _ 0 1 _ Hx2.out He2.out).mono ?_
      rintro e u' w2 ⟨rfl, rfl, hx3, he3, hb3⟩
      exact ⟨_, results_two_row rfl _ w2 w.heap.size (w.heap.size + 1) 29 zeroMsg.toArray (0, 0) _ (.int .i64 1) rfl rfl hx3 Try.underlying29 rfl size_msg (load_errno he3), rfl, Hb2.out.trans hb3⟩
    | nil =>
      have hth : W5.there w.heap.size 0 17 := there_of Hx2.out
      have Hth2 := Lib.hid hth
      have he3 := setAll_other (b := w.heap.size) He2.out (by omega) (rowMsg q (.slice ae q.ents.length cpe) (.slice ao1 q.sc.v.length cp1) (.slice ao2 q.sc.n.length cp2) (.slice ao3 q.sc.l.length cp3))
      have hx3 := setAll_at Hx2.out (rowMsg q (.slice ae q.ents.length cpe) (.slice ao1 q.sc.v.length cp1) (.slice ao2 q.sc.n.length cp2) (.slice ao3 q.sc.l.length cp3)) rfl
      have hb3 := setAll_below Hb2.out (Nat.le_refl _) (rowMsg q (.slice ae q.ents.length cpe) (.slice ao1 q.sc.v.length cp1) (.slice ao2 q.sc.n.length cp2) (.slice ao3 q.sc.l.length cp3))
      have hcf3 := Hcf2.out.up (w' := setAll W5 w.heap.size (rowMsg q (.slice ae q.ents.length cpe) (.slice ao1 q.sc.v.length cp1) (.slice ao2 q.sc.n.length cp2) (.slice ao3 q.sc.l.length cp3))) (S' := w.heap.size + 2) (Up.setAll _ W5 (by omega) _) (by rw [Hsz.out]; omega)
      have HE3 := Lib.hid he3
      have HX3 := Lib.hid hx3
      have HB3 := Lib.hid hb3
      have HCF3 := Lib.hid hcf3
      clear hth he3 hx3 hb3 hcf3
      go_upto_region 6 with fail
      refine wp_region_lit ?_
      refine wpList_load_row rfl 29 (.tmp 4) rfl w.heap.size rfl 29 (rowMsg q (.slice ae q.ents.length cpe) (.slice ao1 q.sc.v.length cp1) (.slice ao2 q.sc.n.length cp2) (.slice ao3 q.sc.l.length cp3)).toArray (0, 0) _ Hx2.out Try.underlying29 rfl size_msg ?_
      refine wpList_store_mid rfl 29 (.tmp 4) (.tmp 20) rfl w.heap.size 0 (rowMsg q (.slice ae q.ents.length cpe) (.slice ao1 q.sc.v.length cp1) (.slice ao2 q.sc.n.length cp2) (.slice ao3 q.sc.l.length cp3)).toArray rfl rfl Hth2.out size_msg (by simp [Value.oneCell']) ?_
      rw [setCells_eq]
      show wpList _ _ _ _ _ (setAll W5 w.heap.size (rowMsg q (.slice ae q.ents.length cpe) (.slice ao1 q.sc.v.length cp1) (.slice ao2 q.sc.n.length cp2) (.slice ao3 q.sc.l.length cp3)))
      generalize setAll W5 w.heap.size (rowMsg q (.slice ae q.ents.length cpe) (.slice ao1 q.sc.v.length cp1) (.slice ao2 q.sc.n.length cp2) (.slice ao3 q.sc.l.length cp3)) = W6 at HE3 HX3 HB3 HCF3 ⊢
      have ce := cell_of_one HE3.out
      have fe := free_of_one HE3.out
      go_wp2_with fail
      have hx4 := hp_set_other (a := ⟨w.heap.size + 1, 0, none⟩) (v := .int .i64 0) HX3.out (by simp)
      have he4 := one_setCell (u := .int .i64 0) HE3.out
      have hb4 := HB3.out.setCell (p := ⟨w.heap.size + 1, 0, none⟩) (Nat.le_succ _) (.int .i64 0)
      have hcf4 := HCF3.out.up (S' := w.heap.size + 2) (Up.setCell _ _ (a := ⟨w.heap.size + 1, 0, none⟩) (by simp) (.int .i64 0)) (by rw [Hsz.out]; omega)
      obtain ⟨W7, hW7⟩ := hide (W6.setCell ⟨w.heap.size + 1, 0, none⟩ (.int .i64 0))
      rw [hW7.out] at hx4 he4 hb4 hcf4
      refine leaves_cons (f := 49) (args := #[.pointer (some ⟨w.heap.size, 0, none⟩), .pointer (some ⟨w.heap.size + 1, 0, none⟩)]) (by simp) (by simp [go_sem]) ?_
      refine (idle_msg _ _ _).mono ?_
      rintro e u' w2 ⟨rfl, rfl, hw2⟩
      have hw3 : W7.alloc (.cells #[.int .i64 0] 79) = w2 := by rw [← hW7.out]; exact hw2
      clear hw2
      subst hw3
      have hx5 := (hp_past W7 (.cells #[.int .i64 0] 79) (fun e => by have := lt_of_block hx4; omega)).trans hx4
      have he5 := (hp_past W7 (.cells #[.int .i64 0] 79) (fun e => by have := lt_of_block he4; omega)).trans he4
      exact ⟨_, results_two_row rfl _ _ w.heap.size (w.heap.size + 1) 29 (rowMsg q (.slice ae q.ents.length cpe) (.slice ao1 q.sc.v.length cp1) (.slice ao2 q.sc.n.length cp2) (.slice ao3 q.sc.l.length cp3)).toArray (0, 0) _ (.int .i64 0) rfl rfl hx5 Try.underlying29 rfl size_msg (load_errno he5), _, _, _, _, rfl, (hcf4.up (Up.alloc (w.heap.size + 2) W7 _) (by rw [Hsz.out]; omega)).base (by rw [Hsz.out]; omega), hb4.alloc hb4.size _⟩

theorem results_var_row {P : Program} {fn : Func} {p p2 : Tmp} {ty : TypeId} (h : fn.results = #[.cell p ty, .tmp p2]) (tmps : Array Value) (w : World) (g : Nat) (t : TypeId) (cs : Array Value) (fr : Nat × Nat) (d : TypeDesc)
    (hp : tmps.getD p undef = .pointer (some ⟨g, 0, none⟩)) (hg : w.heap[g]? = some (.cells cs t fr))
    (hu : P.underlying ty = some d) (hd : (match d with | .struct _ | .array _ _ => true | _ => false) = true) (hi : (P.info? ty).map (·.size) = some cs.size) :
    (results fn tmps).run P w = .ok (.tuple #[.agg cs, tmps.getD p2 undef]) w := by
  have hp' : tmps[p]?.getD undef = .pointer (some ⟨g, 0, none⟩) := by simpa using hp
  simp [results, h, hp', asAddr, run_loadVar_row w g t ty cs fr d hg hu hd hi]
set_option maxHeartbeats 4000000 in
set_option maxRecDepth 100000 in
theorem wire_getMessage (s : List UInt8) (w : World) (hs : s.length ≤ 9223372036854775807) :
    Calls Try.prog 7 #[str s] w (GotMsg w (full (rdMsg s))) := by
  obtain ⟨res, HR⟩ := hide (full (rdMsg s))
  rw [HR.out]
  obtain ⟨W1, hW⟩ := hide (w.alloc (.cells zeroMsg.toArray 29))
  have hx : W1.heap[w.heap.size]? = some (.cells zeroMsg.toArray 29 (0, 0)) := by rw [← hW.out]; exact hp_at _ _ rfl
  have hb : Below w.heap.size w W1 := by rw [← hW.out]; exact (Below.refl _ _).alloc (Nat.le_refl _) _
  have Hx := Lib.hid hx
  have Hb := Lib.hid hb
  have Hws : Hid (w.heap.size < W1.heap.size) := lt_of_block hx
  clear hx hb
  have HQ := Lib.hid (read_msg s W1 hs)
  rw [HR.out] at HQ
  go_enter Try.func7, Try.ntmps7
  go_wp2_with fail
  rw [hW.out]
  refine HQ.out.mono ?_
  intro e w1 hp
  cases res with
  | error z =>
    obtain ⟨rfl, hb1⟩ := hp
    have h1 := (hb1.block w.heap.size (lt_of_block Hx.out)).trans Hx.out
    have h2 := setAll_at h1 zeroMsg rfl
    have hb2 := setAll_below (Hb.out.trans (hb1.mono Hb.out.size)) (Nat.le_refl _) zeroMsg
    have hth : w1.there w.heap.size 0 17 := there_of h1
    have H2 := Lib.hid h2
    have Hb2 := Lib.hid hb2
    have Hth := Lib.hid hth
    clear h1 h2 hb2 hb1 hth
    dsimp only
    iterate 7 go_step
    refine wpList_store_mid rfl 29 (.tmp 2) (.tmp 6) rfl w.heap.size 0 zeroMsg.toArray rfl rfl Hth.out size_msg (by simp [Value.oneCell']) ?_
    rw [setCells_eq]
    show wpList _ _ _ _ _ (setAll w1 w.heap.size zeroMsg)
    generalize setAll w1 w.heap.size zeroMsg = W2 at H2 Hb2 ⊢
    go_wp2_with fail
    refine bodyPost_ret (results_var_row rfl _ W2 w.heap.size 29 zeroMsg.toArray (0, 0) _ rfl H2.out Try.underlying29 rfl size_msg) rfl ?_
    exact ⟨rfl, Hb2.out⟩
  | ok q =>
    obtain ⟨ev, x, y, z, rfl, hcf, hb1⟩ := hp
    obtain ⟨ae, cpe, rfl, _, _⟩ := hcf.e.slice
    obtain ⟨ao1, cp1, rfl⟩ := hcf.c.v.len
    obtain ⟨ao2, cp2, rfl⟩ := hcf.c.n.len
    obtain ⟨ao3, cp3, rfl⟩ := hcf.c.l.len
    have h1 := (hb1.block w.heap.size (lt_of_block Hx.out)).trans Hx.out
    have h2 := setAll_at h1 (rowMsg q (.slice ae q.ents.length cpe) (.slice ao1 q.sc.v.length cp1) (.slice ao2 q.sc.n.length cp2) (.slice ao3 q.sc.l.length cp3)) rfl
    have hb2 := setAll_below (Hb.out.trans (hb1.mono Hb.out.size)) (Nat.le_refl _) (rowMsg q (.slice ae q.ents.length cpe) (.slice ao1 q.sc.v.length cp1) (.slice ao2 q.sc.n.length cp2) (.slice ao3 q.sc.l.length cp3))
    have Hcf := Lib.hid (hcf.up (w' := setAll w1 w.heap.size (rowMsg q (.slice ae q.ents.length cpe) (.slice ao1 q.sc.v.length cp1) (.slice ao2 q.sc.n.length cp2) (.slice ao3 q.sc.l.length cp3))) (S' := w.heap.size + 1) (Up.setAll _ w1 (Nat.lt_succ_self _) _) Hws.out)
    have hth : w1.there w.heap.size 0 17 := there_of h1
    have H2 := Lib.hid h2
    have Hb2 := Lib.hid hb2
    have Hth := Lib.hid hth
    clear h1 h2 hb2 hb1 hth hcf
    dsimp only
    iterate 7 go_step
    refine wpList_store_mid rfl 29 (.tmp 2) (.tmp 6) rfl w.heap.size 0 (rowMsg q (.slice ae q.ents.length cpe) (.slice ao1 q.sc.v.length cp1) (.slice ao2 q.sc.n.length cp2) (.slice ao3 q.sc.l.length cp3)).toArray rfl rfl Hth.out size_msg (by simp [Value.oneCell']) ?_
    rw [setCells_eq]
    show wpList _ _ _ _ _ (setAll w1 w.heap.size (rowMsg q (.slice ae q.ents.length cpe) (.slice ao1 q.sc.v.length cp1) (.slice ao2 q.sc.n.length cp2) (.slice ao3 q.sc.l.length cp3)))
    generalize setAll w1 w.heap.size (rowMsg q (.slice ae q.ents.length cpe) (.slice ao1 q.sc.v.length cp1) (.slice ao2 q.sc.n.length cp2) (.slice ao3 q.sc.l.length cp3)) = W2 at H2 Hb2 Hcf ⊢
    go_wp2_with fail
    refine bodyPost_ret (results_var_row rfl _ W2 w.heap.size 29 (rowMsg q (.slice ae q.ents.length cpe) (.slice ao1 q.sc.v.length cp1) (.slice ao2 q.sc.n.length cp2) (.slice ao3 q.sc.l.length cp3)).toArray (0, 0) _ rfl H2.out Try.underlying29 rfl size_msg) rfl ?_
    exact ⟨_, _, _, _, rfl, Hcf.out.base (by have := Hws.out; omega), Hb2.out⟩
end Go.Proofs.Ytkcllpbbjlbfaaa
