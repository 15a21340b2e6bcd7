/-
  A client as an object: its cells; looking at it, asking, ticking, taking the result.
-/
import Derived.Test.YtckclacdmpcpbaaZa
import Derived.Test.YtckclacdmpcpbaaWm
import Derived.Deep.QuietTactic
import Derived.BigQuiet
import Derived.Deep.Cut
import Derived.Deep.RegionLaw
import Derived.Deep.DeepCutAuto
import Derived.Handy
namespace Go.Proofs.Ytckclacdmpcpbaa
open Go.RowKit Wm Mm Clt
set_option linter.unusedVariables false
set_option linter.unusedSimpArgs false

/-- the nodes' numbers: 1 .. m -/
def nodesL (m : Nat) : List Value := (List.range m).map fun (k : Nat) => Value.int .i64 ((k : Int) + 1)
theorem nodesL_len (m : Nat) : (nodesL m).length = m := by simp [nodesL]
theorem nodesL_get {m k : Nat} (h : k < m) : (nodesL m)[k]? = some (.int .i64 ((k : Int) + 1)) := by
  unfold nodesL
  simp [h]
abbrev cellsC (nv : Value) (c : CliP) (wv rv : Value) : List Value := [nv, .int .i64 c.pos, .int .i64 2, .bool c.waits, .int .i64 c.waited, .int .i64 c.last, .int .i64 c.first, .int .i64 c.session, .int .i64 c.number, wv, rv]
abbrev blkC (nv : Value) (c : CliP) (wv rv : Value) : Obj := .cells (cellsC nv c wv rv).toArray 194 (0, 0)
abbrev rowCmd (x : CmdC) : List Value := [.int .i64 x.kind, str x.key, str x.val, .int .i64 x.iff]
abbrev blkCmd (x : CmdC) : Obj := .cells (rowCmd x).toArray 69 (0, 0)
def WantX (w : World) (v : Value) : Option CmdC → Prop
  | none => v = .pointer none
  | some x => ∃ b, v = .pointer (some ⟨b, 0, none⟩) ∧ w.heap[b]? = some (blkCmd x)
def ResX (w : World) (v : Value) : Bool → Prop
  | false => v = .pointer none
  | true => ∃ b k s n a l c, v = .pointer (some ⟨b, 0, none⟩) ∧ w.heap[b]? = some (.cells #[.int .i64 k, str s, .int .i64 n, .slice a l c] 82 (0, 0))
/-- the client at block C -/
structure CliX (w : World) (C : Nat) (c : CliP) : Prop where
  ex : ∃ g cap wv rv, w.heap[C]? = some (blkC (.slice (some ⟨g, 0, none⟩) c.m cap) c wv rv) ∧ w.ownsRow 0 3 1 (.slice (some ⟨g, 0, none⟩) c.m cap) c.m (nodesL c.m) ∧ WantX w wv c.want ∧ ResX w rv c.res
abbrev OnlyC (C : Nat) : Nat → Prop := fun g => g = C
theorem WantX.chg {w w' : World} {v : Value} {x : Option CmdC} {C : Nat} {cs : Array Value} (h : WantX w v x) (hC : w.heap[C]? = some (.cells cs 194 (0, 0))) (hc : Chg (OnlyC C) w w') : WantX w' v x := by
  cases x with
  | none => exact h
  | some x =>
    obtain ⟨b, h1, h2⟩ := h
    refine ⟨b, h1, hc.at h2 (fun e => ?_)⟩
    have e' : b = C := e
    subst e'
    rw [h2] at hC
    injection hC with hC
    injection hC with _ h3 _
    revert h3
    decide
theorem ResX.chg {w w' : World} {v : Value} {x : Bool} {C : Nat} {cs : Array Value} (h : ResX w v x) (hC : w.heap[C]? = some (.cells cs 194 (0, 0))) (hc : Chg (OnlyC C) w w') : ResX w' v x := by
  cases x with
  | false => exact h
  | true =>
    obtain ⟨b, k, s, n, a, l, c, h1, h2⟩ := h
    refine ⟨b, k, s, n, a, l, c, h1, hc.at h2 (fun e => ?_)⟩
    have e' : b = C := e
    subst e'
    rw [h2] at hC
    injection hC with hC
    injection hC with _ h3 _
    revert h3
    decide
theorem own_notC {w w' : World} {base size n : Nat} {v : Value} {xs : List Value} {C : Nat} {cs : Array Value} {e : TypeId} (h : w.ownsRow base e size v n xs) (hC : w.heap[C]? = some (.cells cs 194 (0, 0))) (hne : e ≠ 194) (hc : Chg (OnlyC C) w w') : w'.ownsRow base e size v n xs := by
  refine own_chg h hc (fun g hg e' => ?_)
  have e'' : g = C := e'
  subst e''
  rcases h.2 with ⟨hv, _⟩ | ⟨g', cap, cur, hv, _, hg', _⟩
  · rw [hv] at hg; simp [Value.ownBlock] at hg
  · rw [hv] at hg
    have e2 : g' = g := by simpa [Value.ownBlock] using hg
    subst e2
    rw [hg'] at hC
    injection hC with hC
    injection hC with _ h3 _
    exact hne h3
/-- the client behind a change of its own cells alone -/
theorem CliX.put {w w' : World} {C : Nat} {c c' : CliP} {g cap : Nat} {wv rv wv' rv' : Value} (hB : w.heap[C]? = some (blkC (.slice (some ⟨g, 0, none⟩) c.m cap) c wv rv)) (hn : w.ownsRow 0 3 1 (.slice (some ⟨g, 0, none⟩) c.m cap) c.m (nodesL c.m)) (hc : Chg (OnlyC C) w w') (hm : c'.m = c.m)
    (hB' : w'.heap[C]? = some (blkC (.slice (some ⟨g, 0, none⟩) c.m cap) c' wv' rv')) (hw : WantX w' wv' c'.want) (hr : ResX w' rv' c'.res) : CliX w' C c' := by
  refine ⟨g, cap, wv', rv', ?_, ?_, hw, hr⟩
  · rw [hm]; exact hB'
  · rw [hm]; exact own_notC hn hB (by decide) hc
theorem CliX.new {w w' : World} {C : Nat} {c : CliP} (h : CliX w C c) (hb : Below w.heap.size w w') : CliX w' C c := by
  obtain ⟨g, cap, wv, rv, hB, hn, hw, hr⟩ := h.ex
  have hc : Chg (OnlyC C) w w' := Chg.fresh _ hb
  exact ⟨g, cap, wv, rv, (hb.block C (lt_of_block hB)).trans hB, own_notC hn hB (by decide) hc, hw.chg hB hc, hr.chg hB hc⟩
theorem CliX.lt {w : World} {C : Nat} {c : CliP} (h : CliX w C c) : C < w.heap.size := by
  obtain ⟨g, cap, wv, rv, hB, _⟩ := h.ex
  exact lt_of_block hB
theorem blkC_set {w : World} {C : Nat} {nv wv rv : Value} {c : CliP} (h : w.heap[C]? = some (blkC nv c wv rv)) (i : Nat) (v : Value) :
    (w.setCell ⟨C, i, none⟩ v).heap[C]? = some (.cells ((cellsC nv c wv rv).toArray.setIfInBounds i v) 194 (0, 0)) := by
  rw [heap_setCell, if_pos rfl, h]; rfl
theorem wantX_isNone {w : World} {v : Value} {x : Option CmdC} (h : WantX w v x) : v = .pointer none ∧ x = none ∨ ∃ b q, v = .pointer (some ⟨b, 0, none⟩) ∧ x = some q ∧ w.heap[b]? = some (blkCmd q) := by
  cases x with
  | none => exact Or.inl ⟨h, rfl⟩
  | some q => obtain ⟨b, h1, h2⟩ := h; exact Or.inr ⟨b, q, h1, rfl, h2⟩

theorem cliCells {w : World} {C : Nat} {nv wv rv : Value} {c : CliP} (h : w.heap[C]? = some (blkC nv c wv rv)) :
    w.cell? ⟨C, 0, none⟩ = some nv ∧ w.cell? ⟨C, 1, none⟩ = some (.int .i64 c.pos) ∧ w.cell? ⟨C, 2, none⟩ = some (.int .i64 2) ∧ w.cell? ⟨C, 3, none⟩ = some (.bool c.waits) ∧ w.cell? ⟨C, 4, none⟩ = some (.int .i64 c.waited) ∧ w.cell? ⟨C, 5, none⟩ = some (.int .i64 c.last) ∧ w.cell? ⟨C, 6, none⟩ = some (.int .i64 c.first) ∧ w.cell? ⟨C, 7, none⟩ = some (.int .i64 c.session) ∧ w.cell? ⟨C, 8, none⟩ = some (.int .i64 c.number) ∧ w.cell? ⟨C, 9, none⟩ = some wv ∧ w.cell? ⟨C, 10, none⟩ = some rv :=
  ⟨cell_n h 0 rfl, cell_n h 1 rfl, cell_n h 2 rfl, cell_n h 3 rfl, cell_n h 4 rfl, cell_n h 5 rfl, cell_n h 6 rfl, cell_n h 7 rfl, cell_n h 8 rfl, cell_n h 9 rfl, cell_n h 10 rfl⟩
theorem setWaits {w : World} {C : Nat} {nv wv rv : Value} {c : CliP} (h : w.heap[C]? = some (blkC nv c wv rv)) (b : Bool) : (w.setCell ⟨C, 3, none⟩ (.bool b)).heap[C]? = some (blkC nv { c with waits := b } wv rv) := blkC_set h 3 _
theorem setPos {w : World} {C : Nat} {nv wv rv : Value} {c : CliP} (h : w.heap[C]? = some (blkC nv c wv rv)) (n : Nat) : (w.setCell ⟨C, 1, none⟩ (.int .i64 n)).heap[C]? = some (blkC nv { c with pos := n } wv rv) := blkC_set h 1 _
theorem setWaited {w : World} {C : Nat} {nv wv rv : Value} {c : CliP} (h : w.heap[C]? = some (blkC nv c wv rv)) (n : Nat) : (w.setCell ⟨C, 4, none⟩ (.int .i64 n)).heap[C]? = some (blkC nv { c with waited := n } wv rv) := blkC_set h 4 _
theorem setLast {w : World} {C : Nat} {nv wv rv : Value} {c : CliP} (h : w.heap[C]? = some (blkC nv c wv rv)) (n : Nat) : (w.setCell ⟨C, 5, none⟩ (.int .i64 n)).heap[C]? = some (blkC nv { c with last := n } wv rv) := blkC_set h 5 _
theorem setFirst {w : World} {C : Nat} {nv wv rv : Value} {c : CliP} (h : w.heap[C]? = some (blkC nv c wv rv)) (n : Nat) : (w.setCell ⟨C, 6, none⟩ (.int .i64 n)).heap[C]? = some (blkC nv { c with first := n } wv rv) := blkC_set h 6 _
theorem setSession {w : World} {C : Nat} {nv wv rv : Value} {c : CliP} (h : w.heap[C]? = some (blkC nv c wv rv)) (n : Nat) : (w.setCell ⟨C, 7, none⟩ (.int .i64 n)).heap[C]? = some (blkC nv { c with session := n } wv rv) := blkC_set h 7 _
theorem setNumber {w : World} {C : Nat} {nv wv rv : Value} {c : CliP} (h : w.heap[C]? = some (blkC nv c wv rv)) (n : Nat) : (w.setCell ⟨C, 8, none⟩ (.int .i64 n)).heap[C]? = some (blkC nv { c with number := n } wv rv) := blkC_set h 8 _
theorem setWant {w : World} {C : Nat} {nv wv rv : Value} {c : CliP} (h : w.heap[C]? = some (blkC nv c wv rv)) (x : Option CmdC) (v : Value) : (w.setCell ⟨C, 9, none⟩ v).heap[C]? = some (blkC nv { c with want := x } v rv) := blkC_set h 9 _
theorem setRes {w : World} {C : Nat} {nv wv rv : Value} {c : CliP} (h : w.heap[C]? = some (blkC nv c wv rv)) (x : Bool) (v : Value) : (w.setCell ⟨C, 10, none⟩ v).heap[C]? = some (blkC nv { c with res := x } wv v) := blkC_set h 10 _
theorem onlyC_set {w : World} {C : Nat} (i : Nat) (v : Value) : Chg (OnlyC C) w (w.setCell ⟨C, i, none⟩ v) := Chg.setCell (F := OnlyC C) (a := ⟨C, i, none⟩) w rfl v
theorem notC {w : World} {C b : Nat} {cs ds : Array Value} {t : TypeId} (hC : w.heap[C]? = some (.cells cs 194 (0, 0))) (hb : w.heap[b]? = some (.cells ds t (0, 0))) (ht : t ≠ 194) : b ≠ C := by
  intro e
  subst e
  rw [hb] at hC
  injection hC with hC
  injection hC with _ h3 _
  exact ht h3

set_option maxHeartbeats 4000000 in
set_option maxRecDepth 100000 in
theorem look_law (c : CliP) (n : Nat) (w : World) (C : Nat) (h : CliX w C c) (ho : OkC n c) :
    Calls Try.prog 33 #[.pointer (some ⟨C, 0, none⟩)] w fun e w' => e = .returned (.agg #[.int .i64 c.session, .int .i64 c.number, .int .i64 ((c.pos : Int) + 1), .bool c.waits, .bool c.want.isSome]) ∧ Below w.heap.size w w' := by
  obtain ⟨g, cap, wv, rv, hB, hn, hw, hr⟩ := h.ex
  obtain ⟨post, HP⟩ := hide (fun (e : Ending) (w' : World) => e = .returned (.agg #[.int .i64 c.session, .int .i64 c.number, .int .i64 ((c.pos : Int) + 1), .bool c.waits, .bool c.want.isSome]) ∧ Below w.heap.size w w')
  rw [HP.out]
  obtain ⟨W, hW⟩ := hide (w.alloc (.cells #[.int .i64 0, .int .i64 0, .int .i64 0, .bool false, .bool false] 72))
  have HbW : Hid (Below w.heap.size w W) := by show Below _ _ _; rw [← hW.out]; exact (Below.refl _ _).alloc (Nat.le_refl _) _
  obtain ⟨R, hR⟩ := hide w.heap.size
  have HRW : Hid (W.heap[R]? = some (.cells #[.int .i64 0, .int .i64 0, .int .i64 0, .bool false, .bool false] 72 (0, 0))) := by show _ = _; rw [← hW.out, ← hR.out]; exact hp_at _ _ rfl
  have hBW := (HbW.out.block C (lt_of_block hB)).trans hB
  have hnW := own_below hn HbW.out
  obtain ⟨c0, c1, c2, c3, c4, c5, c6, c7, c8, c9, c10⟩ := cliCells hBW
  clear c2 c4 c5 c6 c10
  have e0 := own_cell hnW (nodesL_get ho.pos)
  have r0 := cell_n HRW.out 0 (v := .int .i64 0) rfl
  have r1 := cell_n HRW.out 1 (v := .int .i64 0) rfl
  have r2 := cell_n HRW.out 2 (v := .int .i64 0) rfl
  have r3 := cell_n HRW.out 3 (v := .bool false) rfl
  have r4 := cell_n HRW.out 4 (v := .bool false) rfl
  have f0 := free_n HRW.out 0
  have f1 := free_n HRW.out 1
  have f2 := free_n HRW.out 2
  have f3 := free_n HRW.out 3
  have f4 := free_n HRW.out 4
  have hpm := ho.pos
  have hpi : (c.pos : Int) < (c.m : Int) := by omega
  clear h ho hn hnW hB hBW
  obtain ⟨pw, hq1, rfl, hq, hq2⟩ : ∃ (pw : Option Addr) (hq1 : Bool), wv = .pointer pw ∧ c.want.isSome = hq1 ∧ hq1 = pw.isSome := by
    rcases wantX_isNone hw with ⟨h1, hq⟩ | ⟨b, q, h1, hq, _⟩
    · exact ⟨_, false, h1, by rw [hq]; rfl, rfl⟩
    · exact ⟨_, true, h1, by rw [hq]; rfl, rfl⟩
  · rw [hq] at HP
    have Hq2 := Lib.hid hq2
    clear hw hr hq hq2
    go_enter Try.func33, Try.ntmps33
    go_upto_region 1 with fail
    rw [hW.out, hR.out]
    go_region
    all_goals
      have HE : Hid (Below w.heap.size w (setAll W R [.int .i64 c.session, .int .i64 c.number, .int .i64 ((c.pos : Int) + 1), .bool c.waits, .bool pw.isSome]).drew) := (setAll_below HbW.out (Nat.le_of_eq hR.out) _).drew
      have HRs : Hid ((setAll W R [.int .i64 c.session, .int .i64 c.number, .int .i64 ((c.pos : Int) + 1), .bool c.waits, .bool pw.isSome]).drew.heap[R]? = some (.cells #[.int .i64 c.session, .int .i64 c.number, .int .i64 ((c.pos : Int) + 1), .bool c.waits, .bool pw.isSome] 72 (0, 0))) := setAll_at HRW.out _ rfl
      obtain ⟨V, hV⟩ := hide (setAll W R [.int .i64 c.session, .int .i64 c.number, .int .i64 ((c.pos : Int) + 1), .bool c.waits, .bool pw.isSome]).drew
      have hV' : ((((((W.setCell ⟨R, 0, none⟩ (.int .i64 c.session)).setCell ⟨R, 1, none⟩ (.int .i64 c.number)).setCell ⟨R, 2, none⟩ (.int .i64 ((c.pos : Int) + 1))).setCell ⟨R, 3, none⟩ (.bool c.waits)).setCell ⟨R, 4, none⟩ (.bool pw.isSome))).drew = V := hV.out
      rw [hV']
      rw [hV.out] at HE HRs
      clear r0 r1 r2 r3 r4 f0 f1 f2 f3 f4 hV' c0 c1 c3 c7 c8 c9 e0
      have r0 := cell_n HRs.out 0 (v := .int .i64 c.session) rfl
      have r1 := cell_n HRs.out 1 (v := .int .i64 c.number) rfl
      have r2 := cell_n HRs.out 2 (v := .int .i64 ((c.pos : Int) + 1)) rfl
      have r3 := cell_n HRs.out 3 (v := .bool c.waits) rfl
      have r4 := cell_n HRs.out 4 (v := .bool pw.isSome) rfl
      go_wp2_with fail
      refine bodyPost_ret (by simp [results, Try.results33, go_sem, r0, r1, r2, r3, r4]; rfl) rfl ?_
      rw [← HP.out, Hq2.out]
      exact ⟨rfl, HE.out⟩
set_option maxHeartbeats 4000000 in
set_option maxRecDepth 100000 in
theorem step_law (c : CliP) (n : Nat) (w : World) (C : Nat) (h : CliX w C c) (ho : OkC n c) :
    Calls Try.prog 108 #[.pointer (some ⟨C, 0, none⟩)] w fun e w' => e = .returned (.tuple #[]) ∧ CliX w' C (stepC c) ∧ Chg (OnlyC C) w w' := by
  obtain ⟨g, cap, wv, rv, hB, hn, hw, hr⟩ := h.ex
  obtain ⟨post, HP⟩ := hide (fun (e : Ending) (w' : World) => e = .returned (.tuple #[]) ∧ CliX w' C (stepC c) ∧ Chg (OnlyC C) w w')
  rw [HP.out]
  have f3 := free_n hB 3
  obtain ⟨c0, c1, c2, c3, c4, c5, c6, c7, c8, c9, c10⟩ := cliCells hB
  obtain ⟨W, hW⟩ := hide (w.setCell ⟨C, 3, none⟩ (.bool false))
  have hBW := setWaits hB false
  rw [hW.out] at hBW
  obtain ⟨d0, d1, d2, d3, d4, d5, d6, d7, d8, d9, d10⟩ := cliCells hBW
  have g1 := free_n hBW 1
  have HcW : Hid (Chg (OnlyC C) w W) := by show Chg _ _ _; rw [← hW.out]; exact onlyC_set 3 _
  obtain ⟨q, hq⟩ := hide ((c.pos + 1) % c.m)
  have HE : Hid (∀ o, post (.returned (.tuple #[])) ((W.setCell ⟨C, 1, none⟩ (.int .i64 (q : Int))).drewN o)) := fun o => by
    rw [← HP.out]
    have hc : Chg (OnlyC C) w ((W.setCell ⟨C, 1, none⟩ (.int .i64 (q : Int))).drewN o) := HcW.out.trans ((onlyC_set 1 _).trans (Chg.drewN _ _ o))
    refine ⟨rfl, CliX.put hB hn hc (c' := stepC c) rfl ?_ (hw.chg hB hc) (hr.chg hB hc), hc⟩
    have h2 := setPos hBW q
    rw [← hq.out] at h2
    rw [← hq.out]
    exact h2
  have hm0 : ((c.m : Int) == 0) = false := beq_eq_false_iff_ne.2 (by have := ho.m1; omega)
  have hpi : (c.pos : Int) < (c.m : Int) := by have := ho.pos; omega
  have hm9 := ho.m9
  have hpm := ho.pos
  have hwr : IntKind.i64.wrap ((c.pos : Int) + 1) = (c.pos : Int) + 1 := IntWalk.i64_in _ (by omega)
  have hrem : ((c.pos : Int) + 1).tmod (c.m : Int) = (q : Int) := by
    rw [← hq.out]
    have := Int.ofNat_tmod (c.pos + 1) c.m
    simpa using this.symm
  clear h ho hn hw hr hB hBW c0 c1 c2 c4 c5 c6 c7 c8 c9 c10
  go_enter Try.func108, Try.ntmps108
  go_upto_region 1 with fail
  rw [hW.out]
  clear c3 f3
  go_region
  all_goals
    go_wp2_with fail
    go_returns
    exact HE.out 1
set_option maxHeartbeats 4000000 in
set_option maxRecDepth 100000 in
theorem tick_law (c : CliP) (n : Nat) (w : World) (C : Nat) (h : CliX w C c) (ho : OkC n c) (hn1 : n ≤ 1073741824) :
    Calls Try.prog 37 #[.pointer (some ⟨C, 0, none⟩)] w fun e w' => e = .returned (.tuple #[]) ∧ CliX w' C (tickC c) ∧ Chg (OnlyC C) w w' := by
  obtain ⟨g, cap, wv, rv, hB, hn, hw, hr⟩ := h.ex
  obtain ⟨c0, c1, c2, c3, c4, c5, c6, c7, c8, c9, c10⟩ := cliCells hB
  have HX := Lib.hid h
  cases hwt : c.waits
  · have e1 : tickC c = c := by unfold tickC; rw [hwt]; rfl
    rw [e1]
    rw [hwt] at c3
    clear h ho hn hw hr hB e1 hwt
    go_enter Try.func37, Try.ntmps37
    go_wp2_with fail
    go_returns
    exact ⟨rfl, HX.out, Chg.refl _ _⟩
  · obtain ⟨post, HP⟩ := hide (fun (e : Ending) (w' : World) => e = .returned (.tuple #[]) ∧ CliX w' C (tickC c) ∧ Chg (OnlyC C) w w')
    rw [HP.out]
    rw [hwt] at c3
    have f4 := free_n hB 4
    obtain ⟨W, hW⟩ := hide (w.setCell ⟨C, 4, none⟩ (.int .i64 ((c.waited : Int) + 1)))
    have hBW := setWaited hB (c.waited + 1)
    have ec : ((c.waited + 1 : Nat) : Int) = (c.waited : Int) + 1 := by omega
    rw [ec, hW.out] at hBW
    obtain ⟨d0, d1, d2, d3, d4, d5, d6, d7, d8, d9, d10⟩ := cliCells hBW
    simp only [ec] at d4
    have HcW : Hid (Chg (OnlyC C) w W) := by show Chg _ _ _; rw [← hW.out]; exact onlyC_set 4 _
    have HXW : Hid (CliX W C { c with waited := c.waited + 1 }) := CliX.put hB hn HcW.out rfl hBW (hw.chg hB HcW.out) (hr.chg hB HcW.out)
    have hwn := ho.waited
    have hoW : OkC (n + 1) { c with waited := c.waited + 1 } := by
      obtain ⟨a1, a2, a3, a4, a5, a6, a7, a8⟩ := ho
      exact ⟨a1, a2, a3, by show c.waited + 1 ≤ n + 1; omega, by show c.last ≤ n + 1; omega, by show c.first ≤ n + 1 + 1; omega, by show c.number ≤ n + 1; omega, a8⟩
    have HoW := Lib.hid hoW
    have hwr : IntKind.i64.wrap ((c.waited : Int) + 1) = (c.waited : Int) + 1 := IntWalk.i64_in _ (by omega)
    obtain ⟨bq, hbq⟩ := hide (decide (2 ≤ (c.waited : Int) + 1))
    have HtC : Hid (tickC c = if bq then stepC { c with waited := c.waited + 1 } else { c with waited := c.waited + 1 }) := by
      show _ = _
      unfold tickC
      rw [hwt, if_pos rfl, ← hbq.out]
      by_cases h2 : 2 ≤ c.waited + 1
      · rw [if_pos h2, if_pos (by simp; omega)]
      · rw [if_neg h2, if_neg (by simp; omega)]
    clear h ho hn hw hr hB hBW hoW
    go_enter Try.func37, Try.ntmps37
    go_upto_region 2 with fail
    rw [hW.out]
    clear c0 c1 c2 c3 c4 c5 c6 c7 c8 c9 c10 f4
    go_cut [22] (fun s wx => s = .bool bq ∧ Hid (∃ m, wx = W.drewN m))
    case first =>
      go_quiet (fail)
      go_wp2_with fail
      go_meet
      exact ⟨by rw [hbq.out], ⟨_, rfl⟩⟩
    case rest =>
      obtain ⟨U, hU⟩ : ∃ U, U = wc := ⟨_, rfl⟩
      subst hU
      obtain ⟨rfl, hm1⟩ := hcut
      obtain ⟨m1, hU⟩ := hm1.out
      have HXU : Hid (CliX U C { c with waited := c.waited + 1 }) := by show CliX _ _ _; rw [hU]; exact HXW.out.new ⟨rfl, rfl, rfl, Nat.le_refl _, fun _ _ => rfl⟩
      have HcU : Hid (Chg (OnlyC C) w U) := by show Chg _ _ _; rw [hU]; exact HcW.out.trans (Chg.drewN _ _ m1)
      have KS := Lib.hid (step_law _ _ U C HXU.out HoW.out)
      clear hU hm1 d0 d1 d2 d3 d4 d5 d6 d7 d8 d9 d10
      rcases Bool.eq_false_or_eq_true bq with hb | hb
      · subst hb
        go_wp2_with fail
        refine KS.out.mono ?_
        rintro e w2 ⟨rfl, hx2, hc2⟩
        have HE : Hid (post (.returned (.tuple #[])) w2) := by show post _ _; rw [← HP.out, HtC.out]; exact ⟨rfl, hx2, HcU.out.trans hc2⟩
        clear hx2 hc2
        go_wp2_with fail
        go_returns
        exact HE.out
      · subst hb
        have HE : Hid (post (.returned (.tuple #[])) U) := by show post _ _; rw [← HP.out, HtC.out]; exact ⟨rfl, HXU.out, HcU.out⟩
        go_wp2_with fail
        go_returns
        exact HE.out
end Go.Proofs.Ytckclacdmpcpbaa
