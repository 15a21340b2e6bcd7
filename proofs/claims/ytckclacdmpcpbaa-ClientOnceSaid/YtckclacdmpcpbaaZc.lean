/-
  A client as an object: what is asked now; the result.
-/
import Derived.Test.YtckclacdmpcpbaaZb
namespace Go.Proofs.Ytckclacdmpcpbaa
open Go.RowKit Wm Mm Clt
set_option linter.unusedVariables false
set_option linter.unusedSimpArgs false

theorem resX_isNone {w : World} {v : Value} {x : Bool} (h : ResX w v x) : (v = .pointer none ∧ x = false) ∨ (∃ b k s n a l c, v = .pointer (some ⟨b, 0, none⟩) ∧ x = true ∧ w.heap[b]? = some (.cells #[.int .i64 k, str s, .int .i64 n, .slice a l c] 82 (0, 0))) := by
  cases x with
  | false => exact Or.inl ⟨h, rfl⟩
  | true => obtain ⟨b, k, s, n, a, l, c, h1, h2⟩ := h; exact Or.inr ⟨b, k, s, n, a, l, c, h1, rfl, h2⟩
theorem setFrom_chg (R : Nat) : ∀ (vs : List Value) (w : World) (i : Nat), Chg (fun j => j = R) w (setFrom w R i vs)
  | [], w, _ => Chg.refl _ w
  | v :: vs, w, i => (Chg.setCell (F := fun j => j = R) (a := ⟨R, i, none⟩) w rfl v).trans (setFrom_chg R vs _ _)
theorem own_not_result {w : World} {base n : Nat} {v : Value} {xs : List Value} {R : Nat} {cs : Array Value} (h : w.ownsRow base 3 1 v n xs) (hR : w.heap[R]? = some (.cells cs 82 (0, 0))) (hv : v.ownBlock = some R) : False := by
  rcases h.2 with ⟨hv0, _⟩ | ⟨g', cap, cur, hv0, _, hg', _⟩
  · rw [hv0] at hv; simp [Value.ownBlock] at hv
  · rw [hv0] at hv
    have e2 : g' = R := by simpa [Value.ownBlock] using hv
    subst e2
    rw [hg'] at hR
    injection hR with hR
    injection hR with _ h3 _
    revert h3
    decide
set_option maxHeartbeats 4000000 in
set_option maxRecDepth 100000 in
theorem done_law (c : CliP) (w : World) (C : Nat) (h : CliX w C c) :
    Calls Try.prog 38 #[.pointer (some ⟨C, 0, none⟩)] w fun e w' => ∃ k s n a l cp, e = .returned (.tuple #[.agg #[.int .i64 k, str s, .int .i64 n, .slice a l cp], .bool c.res]) ∧ (c.res = false → k = 0) ∧ CliX w' C (doneC c) ∧ Chg (OnlyC C) w w' := by
  obtain ⟨post, HP⟩ := hide (fun (e : Ending) (w' : World) => ∃ k s n a l cp, e = .returned (.tuple #[.agg #[.int .i64 k, str s, .int .i64 n, .slice a l cp], .bool c.res]) ∧ (c.res = false → k = 0) ∧ CliX w' C (doneC c) ∧ Chg (OnlyC C) w w')
  rw [HP.out]
  obtain ⟨W, hW⟩ := hide (w.alloc (.cells #[.int .i64 0, .string ⟨#[]⟩, .int .i64 0, .slice none 0 0] 82))
  have HbW : Hid (Below w.heap.size w W) := by show Below _ _ _; rw [← hW.out]; exact (Below.refl _ _).alloc (Nat.le_refl _) _
  obtain ⟨R, hR⟩ := hide w.heap.size
  have HRW : Hid (W.heap[R]? = some (.cells #[.int .i64 0, .string ⟨#[]⟩, .int .i64 0, .slice none 0 0] 82 (0, 0))) := by show _ = _; rw [← hW.out, ← hR.out]; exact hp_at _ _ rfl
  have HXW : Hid (CliX W C c) := h.new HbW.out
  obtain ⟨g, cap, wv, rv, hB, hn, hw, hr⟩ := HXW.out.ex
  obtain ⟨c0, c1, c2, c3, c4, c5, c6, c7, c8, c9, c10⟩ := cliCells hB
  have HCR : Hid (C < R) := by show _ < _; rw [← hR.out]; exact h.lt
  have r0 := cell_n HRW.out 0 (v := .int .i64 0) rfl
  have r1 := cell_n HRW.out 1 (v := .string ⟨#[]⟩) rfl
  have r2 := cell_n HRW.out 2 (v := .int .i64 0) rfl
  have r3 := cell_n HRW.out 3 (v := .slice none 0 0) rfl
  have f0 := free_n HRW.out 0
  have f1 := free_n HRW.out 1
  have f2 := free_n HRW.out 2
  have f3 := free_n HRW.out 3
  clear c0 c1 c2 c3 c4 c5 c6 c7 c8 c9
  rcases resX_isNone hr with ⟨rfl, hq⟩ | ⟨b, k, s, n, a, l, cp, rfl, hq, hb⟩
  · have HE : Hid (∀ V : World, V = setAll W R [.int .i64 0, .string ⟨#[]⟩, .int .i64 0, .slice none 0 0] → post (.returned (.tuple #[.agg #[.int .i64 0, .string ⟨#[]⟩, .int .i64 0, .slice none 0 0], .bool false])) V) := fun V hV => by
      have hb : Below w.heap.size w V := by rw [hV]; exact setAll_below HbW.out (Nat.le_of_eq hR.out) _
      rw [← HP.out]
      refine ⟨0, [], 0, none, 0, 0, by rw [hq], fun _ => rfl, ?_, Chg.fresh _ hb⟩
      have h2 := h.new hb
      have e : doneC c = c := by unfold doneC; rw [← hq]
      rw [e]; exact h2
    have HRs : Hid (∀ V : World, V = setAll W R [.int .i64 0, .string ⟨#[]⟩, .int .i64 0, .slice none 0 0] → V.heap[R]? = some (.cells #[.int .i64 0, .string ⟨#[]⟩, .int .i64 0, .slice none 0 0] 82 (0, 0))) := fun V hV => by rw [hV]; exact setAll_at HRW.out _ rfl
    clear h hB hn hw hr hq
    go_enter Try.func38, Try.ntmps38
    go_upto_region 1 with fail
    rw [hW.out, hR.out]
    go_wp2_with fail
    obtain ⟨V, hV⟩ := hide (setAll W R [.int .i64 0, .string ⟨#[]⟩, .int .i64 0, .slice none 0 0])
    change bodyPost _ _ _ Exit.ret _ (setAll W R [.int .i64 0, .string ⟨#[]⟩, .int .i64 0, .slice none 0 0])
    rw [hV.out]
    clear r0 r1 r2 r3
    have hRs := HRs.out V hV.out.symm
    have r0 := cell_n hRs 0 (v := .int .i64 0) rfl
    have r1 := cell_n hRs 1 (v := .string ⟨#[]⟩) rfl
    have r2 := cell_n hRs 2 (v := .int .i64 0) rfl
    have r3 := cell_n hRs 3 (v := .slice none 0 0) rfl
    refine bodyPost_ret (by simp [results, Try.results38, go_sem, r0, r1, r2, r3]; rfl) rfl ?_
    exact HE.out V hV.out.symm
  · have x0 := cell_n hb 0 (v := .int .i64 k) rfl
    have x1 := cell_n hb 1 (v := str s) rfl
    have x2 := cell_n hb 2 (v := .int .i64 n) rfl
    have x3 := cell_n hb 3 (v := .slice a l cp) rfl
    obtain ⟨W2, hW2⟩ := hide (W.alloc (.cells #[.int .i64 k, str s, .int .i64 n, .slice a l cp] 82))
    obtain ⟨R2, hR2⟩ := hide W.heap.size
    have HR2 : Hid (W2.heap[R2]? = some (.cells #[.int .i64 k, str s, .int .i64 n, .slice a l cp] 82 (0, 0))) := by show _ = _; rw [← hW2.out, ← hR2.out]; exact hp_at _ _ rfl
    have HbW2 : Hid (Below W.heap.size W W2) := by show Below _ _ _; rw [← hW2.out]; exact (Below.refl _ _).alloc (Nat.le_refl _) _
    have HRW2 : Hid (W2.heap[R]? = some (.cells #[.int .i64 0, .string ⟨#[]⟩, .int .i64 0, .slice none 0 0] 82 (0, 0))) := (HbW2.out.block R (lt_of_block HRW.out)).trans HRW.out
    have HB2 : Hid (W2.heap[C]? = some (blkC (.slice (some ⟨g, 0, none⟩) c.m cap) c wv (.pointer (some ⟨b, 0, none⟩)))) := (HbW2.out.block C (lt_of_block hB)).trans hB
    have hc2 : Chg (OnlyC C) W W2 := Chg.fresh _ HbW2.out
    have HO2 : Hid (World.ownsRow W2 0 3 1 (.slice (some ⟨g, 0, none⟩) c.m cap) c.m (nodesL c.m)) := own_notC hn hB (by decide) hc2
    have Hw2 : Hid (WantX W2 wv c.want) := hw.chg hB hc2
    have f10 := free_n HB2.out 10
    have d10 := (cliCells HB2.out).2.2.2.2.2.2.2.2.2.2
    obtain ⟨W3, hW3⟩ := hide (W2.setCell ⟨C, 10, none⟩ (.pointer none))
    have HB3 : Hid (W3.heap[C]? = some (blkC (.slice (some ⟨g, 0, none⟩) c.m cap) (doneC c) wv (.pointer none))) := by show _ = _; rw [← hW3.out]; exact setRes HB2.out false _
    have Hc3 : Hid (Chg (OnlyC C) W2 W3) := by show Chg _ _ _; rw [← hW3.out]; exact onlyC_set 10 _
    have HX3 : Hid (CliX W3 C (doneC c)) := CliX.put HB2.out HO2.out Hc3.out rfl HB3.out (Hw2.out.chg HB2.out Hc3.out) rfl
    have HR3 : Hid (W3.heap[R]? = some (.cells #[.int .i64 0, .string ⟨#[]⟩, .int .i64 0, .slice none 0 0] 82 (0, 0))) := Hc3.out.at HRW2.out (fun e => by have e' : R = C := e; have := HCR.out; omega)
    have HR23 : Hid (W3.heap[R2]? = some (.cells #[.int .i64 k, str s, .int .i64 n, .slice a l cp] 82 (0, 0))) := Hc3.out.at HR2.out (fun e => by have e' : R2 = C := e; have := HCR.out; have := HbW.out.size; have := lt_of_block hB; have := hR2.out; omega)
    have HRl : Hid (W3.heap.size = W3.heap.size) := rfl
    have HcW : Hid (Chg (OnlyC C) w W3) := (Chg.fresh _ HbW.out).trans (hc2.trans Hc3.out)
    have HE : Hid (∀ V : World, V = setAll W3 R [.int .i64 k, str s, .int .i64 n, .slice a l cp] → post (.returned (.tuple #[.agg #[.int .i64 k, str s, .int .i64 n, .slice a l cp], .bool true])) V) := fun V hV => by
      rw [← HP.out]
      have hRC : ∀ g, OnlyC C g → g ≠ R := fun g e => by have e' : g = C := e; have := HCR.out; omega
      have hVb : ∀ j, j ≠ R → V.heap[j]? = W3.heap[j]? := fun j hj => by rw [hV]; exact setFrom_other (Ne.symm hj) _ W3 0
      have hVs : V.heap.size = W3.heap.size := by rw [hV]; exact setFrom_size R _ W3 0
      obtain ⟨g3, cap3, wv3, rv3, k1, k2, k3, k4⟩ := HX3.out.ex
      have hcR : Chg (fun j => j = R) W3 V := by
        rw [hV]
        exact setFrom_chg R _ W3 0
      refine ⟨k, s, n, a, l, cp, by rw [hq], fun e => (by rw [hq] at e; cases e), ?_, ?_⟩
      · refine ⟨g3, cap3, wv3, rv3, (hVb C (hRC C rfl)).trans k1, own_chg k2 hcR (fun j hj e => ?_), ?_, ?_⟩
        · have e' : j = R := e
          subst e'
          exact own_not_result k2 HR3.out hj
        · revert k3
          cases (doneC c).want with
          | none => exact fun h => h
          | some x => exact fun ⟨b, h1, h2⟩ => ⟨b, h1, (hVb b (fun e => by subst e; rw [HR3.out] at h2; injection h2 with h2; injection h2 with _ h3 _; revert h3; decide)).trans h2⟩
        · exact k4
      · refine ⟨hcR.os.trans HcW.out.os, hcR.tape.trans HcW.out.tape, hcR.output.trans HcW.out.output, Nat.le_trans HcW.out.size hcR.size, fun j h1 h2 => (hVb j (fun e => by have := hR.out; omega)).trans (HcW.out.block j h1 h2)⟩
    have HRs : Hid (∀ V : World, V = setAll W3 R [.int .i64 k, str s, .int .i64 n, .slice a l cp] → V.heap[R]? = some (.cells #[.int .i64 k, str s, .int .i64 n, .slice a l cp] 82 (0, 0))) := fun V hV => by rw [hV]; exact setAll_at HR3.out _ rfl
    clear h hB hn hw hr hq hb hc2
    go_enter Try.func38, Try.ntmps38
    go_upto_region 1 with fail
    rw [hW.out, hR.out]
    go_upto_region 4 with fail
    rw [hW2.out, hR2.out]
    clear r0 r1 r2 r3 f0 f1 f2 f3 x0 x1 x2 x3 c10
    go_upto_region 5 with fail
    rw [hW3.out]
    clear f10 d10
    have r0 := cell_n HR3.out 0 (v := .int .i64 0) rfl
    have r1 := cell_n HR3.out 1 (v := .string ⟨#[]⟩) rfl
    have r2 := cell_n HR3.out 2 (v := .int .i64 0) rfl
    have r3 := cell_n HR3.out 3 (v := .slice none 0 0) rfl
    have f0 := free_n HR3.out 0
    have f1 := free_n HR3.out 1
    have f2 := free_n HR3.out 2
    have f3 := free_n HR3.out 3
    have x0 := cell_n HR23.out 0 (v := .int .i64 k) rfl
    have x1 := cell_n HR23.out 1 (v := str s) rfl
    have x2 := cell_n HR23.out 2 (v := .int .i64 n) rfl
    have x3 := cell_n HR23.out 3 (v := .slice a l cp) rfl
    go_wp2_with fail
    obtain ⟨V, hV⟩ := hide (setAll W3 R [.int .i64 k, str s, .int .i64 n, .slice a l cp])
    change bodyPost _ _ _ Exit.ret _ (setAll W3 R [.int .i64 k, str s, .int .i64 n, .slice a l cp])
    rw [hV.out]
    clear r0 r1 r2 r3
    have hRs := HRs.out V hV.out.symm
    have r0 := cell_n hRs 0 (v := .int .i64 k) rfl
    have r1 := cell_n hRs 1 (v := str s) rfl
    have r2 := cell_n hRs 2 (v := .int .i64 n) rfl
    have r3 := cell_n hRs 3 (v := .slice a l cp) rfl
    refine bodyPost_ret (by simp [results, Try.results38, go_sem, r0, r1, r2, r3]; rfl) rfl ?_
    exact HE.out V hV.out.symm
def zeroCmd : CmdC := ⟨0, [], [], 0⟩
structure AskC where
  id : Nat
  node : Nat
  cl : Nat
  num : Nat
  cmd : CmdC
def askC (c : CliP) : AskC :=
  if (nextC c).2 then ⟨c.last + 1, c.pos + 1, if c.session = 0 then 0 else c.session, if c.session = 0 then 0 else c.number + 1, if c.session = 0 then zeroCmd else c.want.getD zeroCmd⟩ else ⟨0, 0, 0, 0, zeroCmd⟩
abbrev rowAsk (id node cl num : Int) (x : CmdC) : List Value := [.int .i64 id, .int .i64 node, .int .i64 cl, .int .i64 num, .int .i64 x.kind, str x.key, str x.val, .int .i64 x.iff, .int .i64 0]
abbrev rowA (a : AskC) : List Value := rowAsk a.id a.node a.cl a.num a.cmd
abbrev zerosA : List Value := [.int .i64 0, .int .i64 0, .int .i64 0, .int .i64 0, .int .i64 0, .string ⟨#[]⟩, .string ⟨#[]⟩, .int .i64 0, .int .i64 0]
theorem nine_cells {w : World} {R : Nat} {a0 a1 a2 a3 a4 a5 a6 a7 a8 : Value} {t : TypeId} (h : w.heap[R]? = some (.cells #[a0, a1, a2, a3, a4, a5, a6, a7, a8] t (0, 0))) :
    w.cell? ⟨R, 0, none⟩ = some a0 ∧ w.cell? ⟨R, 1, none⟩ = some a1 ∧ w.cell? ⟨R, 2, none⟩ = some a2 ∧ w.cell? ⟨R, 3, none⟩ = some a3 ∧ w.cell? ⟨R, 4, none⟩ = some a4 ∧ w.cell? ⟨R, 5, none⟩ = some a5 ∧ w.cell? ⟨R, 6, none⟩ = some a6 ∧ w.cell? ⟨R, 7, none⟩ = some a7 ∧ w.cell? ⟨R, 8, none⟩ = some a8 :=
  ⟨cell_n h 0 rfl, cell_n h 1 rfl, cell_n h 2 rfl, cell_n h 3 rfl, cell_n h 4 rfl, cell_n h 5 rfl, cell_n h 6 rfl, cell_n h 7 rfl, cell_n h 8 rfl⟩
theorem nine_free {w : World} {R : Nat} {cs : Array Value} {t : TypeId} (h : w.heap[R]? = some (.cells cs t (0, 0))) :
    w.frozen? ⟨R, 0, none⟩ = false ∧ w.frozen? ⟨R, 1, none⟩ = false ∧ w.frozen? ⟨R, 2, none⟩ = false ∧ w.frozen? ⟨R, 3, none⟩ = false ∧ w.frozen? ⟨R, 4, none⟩ = false ∧ w.frozen? ⟨R, 5, none⟩ = false ∧ w.frozen? ⟨R, 6, none⟩ = false ∧ w.frozen? ⟨R, 7, none⟩ = false ∧ w.frozen? ⟨R, 8, none⟩ = false :=
  ⟨free_n h 0, free_n h 1, free_n h 2, free_n h 3, free_n h 4, free_n h 5, free_n h 6, free_n h 7, free_n h 8⟩
/-- the client behind a store into a block of another type -/
theorem CliX.putOther {w w' : World} {C : Nat} {c : CliP} (h : CliX w C c) {R : Nat} {cs : Array Value} {t : TypeId} (hR : w.heap[R]? = some (.cells cs t (0, 0))) (ht : t = 78 ∨ t = 72) (hc : Chg (fun j => j = R) w w') : CliX w' C c := by
  obtain ⟨g, cap, wv, rv, k1, k2, k3, k4⟩ := h.ex
  have hne : ∀ {b : Nat} {ds : Array Value} {u : TypeId}, w.heap[b]? = some (.cells ds u (0, 0)) → u ≠ t → b ≠ R := fun h1 h2 e => by
    subst e
    rw [h1] at hR
    injection hR with hR
    injection hR with _ h3 _
    exact h2 h3
  refine ⟨g, cap, wv, rv, hc.at k1 (hne k1 (by rcases ht with rfl | rfl <;> decide)), own_chg k2 hc (fun j hj e => ?_), ?_, ?_⟩
  · rcases k2.2 with ⟨hv0, _⟩ | ⟨g', cap', cur, hv0, _, hg', _⟩
    · cases hv0
    · have e2 : g' = j := by rw [hv0] at hj; simpa [Value.ownBlock] using hj
      subst e2
      exact hne hg' (by rcases ht with rfl | rfl <;> decide) e
  · revert k3
    cases c.want with
    | none => exact fun h => h
    | some x => exact fun ⟨b, h1, h2⟩ => ⟨b, h1, hc.at h2 (hne h2 (by rcases ht with rfl | rfl <;> decide))⟩
  · revert k4
    cases c.res with
    | false => exact fun h => h
    | true => exact fun ⟨b, k, s, n, a, l, cp, h1, h2⟩ => ⟨b, k, s, n, a, l, cp, h1, hc.at h2 (hne h2 (by rcases ht with rfl | rfl <;> decide))⟩
theorem chg_fresh {w w1 w' : World} {C R : Nat} (h : Chg (OnlyC C) w w1) (hR : w.heap.size ≤ R) (hc : Chg (fun j => j = R) w1 w') : Chg (OnlyC C) w w' :=
  ⟨hc.os.trans h.os, hc.tape.trans h.tape, hc.output.trans h.output, Nat.le_trans h.size hc.size, fun j h1 h2 => (hc.block j (Nat.lt_of_lt_of_le h1 h.size) (fun e => by have e' : j = R := e; omega)).trans (h.block j h1 h2)⟩

set_option maxHeartbeats 8000000 in
set_option maxRecDepth 100000 in
theorem ask_law (c : CliP) (n : Nat) (w : World) (C : Nat) (h : CliX w C c) (ho : OkC n c) (hn1 : n ≤ 1073741824) :
    Calls Try.prog 35 #[.pointer (some ⟨C, 0, none⟩)] w fun e w' => e = .returned (.tuple #[.agg (rowA (askC c)).toArray, .bool (nextC c).2]) ∧ CliX w' C (nextC c).1 ∧ Chg (OnlyC C) w w' := by
  obtain ⟨post, HP⟩ := hide (fun (e : Ending) (w' : World) => e = .returned (.tuple #[.agg (rowA (askC c)).toArray, .bool (nextC c).2]) ∧ CliX w' C (nextC c).1 ∧ Chg (OnlyC C) w w')
  rw [HP.out]
  obtain ⟨W, hW⟩ := hide (w.alloc (.cells #[.int .i64 0, .int .i64 0, .int .i64 0, .int .i64 0, .int .i64 0, .string ⟨#[]⟩, .string ⟨#[]⟩, .int .i64 0, .int .i64 0] 78))
  have HbW : Hid (Below w.heap.size w W) := by show Below _ _ _; rw [← hW.out]; exact (Below.refl _ _).alloc (Nat.le_refl _) _
  obtain ⟨R, hR⟩ := hide w.heap.size
  have HRW : Hid (W.heap[R]? = some (.cells zerosA.toArray 78 (0, 0))) := by show _ = _; rw [← hW.out, ← hR.out]; exact hp_at _ _ rfl
  have HXW : Hid (CliX W C c) := h.new HbW.out
  have HcW : Hid (Chg (OnlyC C) w W) := Chg.fresh _ HbW.out
  obtain ⟨g, cap, wv, rv, hB, hn, hw, hr⟩ := HXW.out.ex
  obtain ⟨c0, c1, c2, c3, c4, c5, c6, c7, c8, c9, c10⟩ := cliCells hB
  have HCR : Hid (C < R) := by show _ < _; rw [← hR.out]; exact h.lt
  clear c0 c1 c2 c6 c7 c8 c10
  cases hi : (nextC c).2
  · have e1 : (nextC c).1 = c := by
      unfold nextC at hi ⊢
      split at hi
      · next hc => rw [if_pos hc]
      · cases hi
    have ea : askC c = ⟨0, 0, 0, 0, zeroCmd⟩ := by unfold askC; rw [hi]; rfl
    rw [hi, e1, ea] at HP
    have HE : Hid (∀ V : World, V = setAll W R zerosA → post (.returned (.tuple #[.agg zerosA.toArray, .bool false])) V) := fun V hV => by
      have hb : Below w.heap.size w V := by rw [hV]; exact setAll_below HbW.out (Nat.le_of_eq hR.out) _
      rw [← HP.out]
      exact ⟨rfl, h.new hb, Chg.fresh _ hb⟩
    have HRs : Hid (∀ V : World, V = setAll W R zerosA → V.heap[R]? = some (.cells zerosA.toArray 78 (0, 0))) := fun V hV => by rw [hV]; exact setAll_at HRW.out _ rfl
    obtain ⟨r0, r1, r2, r3, r4, r5, r6, r7, r8⟩ := nine_cells HRW.out
    obtain ⟨f0, f1, f2, f3, f4, f5, f6, f7, f8⟩ := nine_free HRW.out
    rw [next_is] at hi
    have hcase : wv = .pointer none ∨ ∃ b, wv = .pointer (some ⟨b, 0, none⟩) ∧ c.waits = true := by
      rcases wantX_isNone hw with ⟨h1, _⟩ | ⟨b, q, h1, h2, _⟩
      · exact Or.inl h1
      · refine Or.inr ⟨b, h1, ?_⟩
        rw [h2] at hi
        cases hq : c.waits with
        | true => rfl
        | false => rw [hq] at hi; cases hi
    clear h hB hn hw hr hi e1 ea
    rcases hcase with rfl | ⟨b, rfl, hwt⟩
    all_goals
      try rw [hwt] at c3
      go_enter Try.func35, Try.ntmps35
      go_upto_region 1 with fail
      rw [hW.out, hR.out]
      go_wp2_with fail
      obtain ⟨V, hV⟩ := hide (setAll W R zerosA)
      change bodyPost _ _ _ Exit.ret _ (setAll W R zerosA)
      rw [hV.out]
      clear r0 r1 r2 r3 r4 r5 r6 r7 r8
      obtain ⟨r0, r1, r2, r3, r4, r5, r6, r7, r8⟩ := nine_cells (HRs.out V hV.out.symm)
      refine bodyPost_ret (by simp [results, Try.results35, go_sem, r0, r1, r2, r3, r4, r5, r6, r7, r8]; rfl) rfl ?_
      exact HE.out V hV.out.symm
  · have hi2 := hi
    rw [next_is] at hi2
    have hwt : c.waits = false := by cases hq : c.waits with
      | true => rw [hq] at hi2; cases hi2
      | false => rfl
    obtain ⟨b, q, rfl, hq, hb⟩ : ∃ b q, wv = .pointer (some ⟨b, 0, none⟩) ∧ c.want = some q ∧ W.heap[b]? = some (blkCmd q) := by
      rcases wantX_isNone hw with ⟨h1, h2⟩ | h2
      · rw [hwt, h2] at hi2; cases hi2
      · exact h2
    rw [hwt] at c3
    have e1 : (nextC c).1 = { c with last := c.last + 1, waits := true, waited := 0 } := by
      unfold nextC
      rw [hq, hwt]
      rfl
    have ea : askC c = ⟨c.last + 1, c.pos + 1, if c.session = 0 then 0 else c.session, if c.session = 0 then 0 else c.number + 1, if c.session = 0 then zeroCmd else q⟩ := by
      unfold askC; rw [if_pos hi, hq]; rfl
    rw [hi, e1, ea] at HP
    obtain ⟨W1, hW1⟩ := hide (((W.setCell ⟨C, 5, none⟩ (.int .i64 ((c.last : Int) + 1))).setCell ⟨C, 3, none⟩ (.bool true)).setCell ⟨C, 4, none⟩ (.int .i64 0))
    have HB1 : Hid (W1.heap[C]? = some (blkC (.slice (some ⟨g, 0, none⟩) c.m cap) { c with last := c.last + 1, waits := true, waited := 0 } (.pointer (some ⟨b, 0, none⟩)) rv)) := by
      show _ = _
      rw [← hW1.out]
      exact setWaited (setWaits (setLast hB (c.last + 1)) true) 0
    have HcW1 : Hid (Chg (OnlyC C) W W1) := by show Chg _ _ _; rw [← hW1.out]; exact (onlyC_set 5 _).trans ((onlyC_set 3 _).trans (onlyC_set 4 _))
    have HX1 : Hid (CliX W1 C { c with last := c.last + 1, waits := true, waited := 0 }) := CliX.put hB hn HcW1.out rfl HB1.out (hw.chg hB HcW1.out) (hr.chg hB HcW1.out)
    have HR1 : Hid (W1.heap[R]? = some (.cells zerosA.toArray 78 (0, 0))) := HcW1.out.at HRW.out (fun e => by have e' : R = C := e; have := HCR.out; omega)
    have Hq1 : Hid (W1.heap[b]? = some (blkCmd q)) := HcW1.out.at hb (notC hB hb (by decide))
    have HO1 : Hid (World.ownsRow W1 0 3 1 (.slice (some ⟨g, 0, none⟩) c.m cap) c.m (nodesL c.m)) := own_notC hn hB (by decide) HcW1.out
    have f5 := free_n hB 5
    have f3 := free_n hB 3
    have f4 := free_n hB 4
    obtain ⟨d0, d1, d2, d3, d4, d5, d6, d7, d8, d9, d10⟩ := cliCells HB1.out
    have d5' : W1.cell? ⟨C, 5, none⟩ = some (.int .i64 ((c.last : Int) + 1)) := d5
    have d0' := d0
    have d1' := d1
    have d7' := d7
    clear d0 d1 d2 d3 d4 d5 d6 d7 d8 d9 d10
    have HZ : Hid (∀ k o, W1.heap[k]? = some o → (W1.alloc (.cells #[.int .i64 0, .int .i64 0, .int .i64 0, .int .i64 0, .int .i64 0, .string ⟨#[]⟩, .string ⟨#[]⟩, .int .i64 0, .int .i64 0] 78)).heap[k]? = some o) := fun k o hk => (hp_past _ _ (Nat.ne_of_lt (lt_of_block hk))).trans hk
    obtain ⟨z0, z1, z2, z3, z4, z5, z6, z7, z8, z9, z10⟩ := cliCells (HZ.out _ _ HB1.out)
    have z5' : (W1.alloc (.cells #[.int .i64 0, .int .i64 0, .int .i64 0, .int .i64 0, .int .i64 0, .string ⟨#[]⟩, .string ⟨#[]⟩, .int .i64 0, .int .i64 0] 78)).cell? ⟨C, 5, none⟩ = some (.int .i64 ((c.last : Int) + 1)) := z5
    have z0' := z0
    have z1' := z1
    clear z0 z1 z2 z3 z4 z5 z6 z7 z8 z9 z10
    have e0 := own_cell HO1.out (nodesL_get ho.pos)
    have e1' := own_cell (HO1.out.alloc (.cells #[.int .i64 0, .int .i64 0, .int .i64 0, .int .i64 0, .int .i64 0, .string ⟨#[]⟩, .string ⟨#[]⟩, .int .i64 0, .int .i64 0] 78)) (nodesL_get ho.pos)
    have hpi : (c.pos : Int) < (c.m : Int) := by have := ho.pos; omega
    have hpm := ho.pos
    have hln := ho.last
    have hnn := ho.number
    have hwr : IntKind.i64.wrap ((c.last : Int) + 1) = (c.last : Int) + 1 := IntWalk.i64_in _ (by omega)
    have hwr2 : IntKind.i64.wrap ((c.number : Int) + 1) = (c.number : Int) + 1 := IntWalk.i64_in _ (by omega)
    have HcW2 : Hid (Chg (OnlyC C) w W1) := HcW.out.trans HcW1.out
    clear h ho hn hw hr hB hb hi hi2 hwt hq e1 ea
    go_enter Try.func35, Try.ntmps35
    go_upto_region 1 with fail
    rw [hW.out, hR.out]
    go_upto_region 5 with fail
    have hW1' : ((W.setCell ⟨C, 5, none⟩ (.int .i64 ((c.last : Int) + 1))).setCell ⟨C, 3, none⟩ (.bool true)).setCell ⟨C, 4, none⟩ (.int .i64 0) = W1 := hW1.out
    rw [hW1']
    clear hW1' c3 c4 c5 c9 f3 f4 f5
    go_cut [4] (fun s wx => s = .pointer (some ⟨W1.heap.size, 0, none⟩) ∧ Hid (∃ m, wx = (W1.alloc (.cells (rowAsk ((c.last : Int) + 1) ((c.pos : Int) + 1) 0 0 zeroCmd).toArray 78)).drewN m))
    case first =>
      go_region
      all_goals
        go_wp2_with fail
        go_meet
        exact ⟨rfl, ⟨1, rfl⟩⟩
    case rest =>
      obtain ⟨U, hU⟩ : ∃ U, U = wc := ⟨_, rfl⟩
      subst hU
      obtain ⟨rfl, hm1⟩ := hcut
      obtain ⟨m1, hU⟩ := hm1.out
      obtain ⟨R2, hR2⟩ := hide W1.heap.size
      rw [hR2.out]
      have HbU : Hid (Below W1.heap.size W1 U) := by show Below _ _ _; rw [hU]; exact ((Below.refl _ _).alloc (Nat.le_refl _) _).trans ⟨rfl, rfl, rfl, Nat.le_refl _, fun _ _ => rfl⟩
      have HAU : Hid (U.heap[R2]? = some (.cells (rowAsk ((c.last : Int) + 1) ((c.pos : Int) + 1) 0 0 zeroCmd).toArray 78 (0, 0))) := by show _ = _; rw [hU, ← hR2.out]; exact hp_at _ _ rfl
      have HXU : Hid (CliX U C { c with last := c.last + 1, waits := true, waited := 0 }) := HX1.out.new HbU.out
      have HcU : Hid (Chg (OnlyC C) w U) := HcW2.out.trans (Chg.fresh _ HbU.out)
      have HRU : Hid (U.heap[R]? = some (.cells zerosA.toArray 78 (0, 0))) := (HbU.out.block R (lt_of_block HR1.out)).trans HR1.out
      have HBU : Hid (U.heap[C]? = some (blkC (.slice (some ⟨g, 0, none⟩) c.m cap) { c with last := c.last + 1, waits := true, waited := 0 } (.pointer (some ⟨b, 0, none⟩)) rv)) := (HbU.out.block C (lt_of_block HB1.out)).trans HB1.out
      have HqU : Hid (U.heap[b]? = some (blkCmd q)) := (HbU.out.block b (lt_of_block Hq1.out)).trans Hq1.out
      have HRR : Hid (R < R2) := by show _ < _; rw [← hR2.out]; exact lt_of_block HR1.out
      clear hU hm1 d0' d1' d7' z0' z1' z5' e0 e1' HZ d5'
      obtain ⟨d0, d1, d2, d3, d4, d5, d6, d7, d8, d9, d10⟩ := cliCells HBU.out
      clear d0 d1 d2 d3 d4 d5 d6 d10
      have d7 : U.cell? ⟨C, 7, none⟩ = some (.int .i64 (c.session : Int)) := d7
      have Hfin : Hid (∀ (V : World) (cl num : Nat) (x : CmdC) (U2 : World), cl = (if c.session = 0 then 0 else c.session) → num = (if c.session = 0 then 0 else c.number + 1) → x = (if c.session = 0 then zeroCmd else q) → Chg (fun j => j = R2) U U2 → V = setAll U2 R (rowAsk ((c.last : Int) + 1) ((c.pos : Int) + 1) cl num x) → post (.returned (.tuple #[.agg (rowAsk ((c.last : Int) + 1) ((c.pos : Int) + 1) cl num x).toArray, .bool true])) V) := by
        intro V cl num x U2 h1 h2 h3 h4 h5
        have k1 : CliX U2 C { c with last := c.last + 1, waits := true, waited := 0 } := HXU.out.putOther HAU.out (Or.inl rfl) h4
        have k2 : U2.heap[R]? = some (.cells zerosA.toArray 78 (0, 0)) := h4.at HRU.out (fun e => by have := HRR.out; omega)
        have k3 : Chg (fun j => j = R) U2 V := by rw [h5]; exact setFrom_chg R _ U2 0
        rw [← HP.out, ← h1, ← h2, ← h3]
        refine ⟨?_, k1.putOther k2 (Or.inl rfl) k3, chg_fresh (chg_fresh HcU.out (by have := hR.out; have := HRR.out; omega) h4) (Nat.le_of_eq hR.out) k3⟩
        show _ = Ending.returned (.tuple #[.agg (rowAsk ((c.last + 1 : Nat) : Int) ((c.pos + 1 : Nat) : Int) cl num x).toArray, .bool true])
        rw [show ((c.last + 1 : Nat) : Int) = (c.last : Int) + 1 from by omega, show ((c.pos + 1 : Nat) : Int) = (c.pos : Int) + 1 from by omega]
      cases hs : decide (0 < c.session)
      · have hs0 : c.session = 0 := by have := of_decide_eq_false hs; omega
        obtain ⟨x0, x1, x2, x3, x4, x5, x6, x7, x8⟩ := nine_cells HAU.out
        obtain ⟨r0, r1, r2, r3, r4, r5, r6, r7, r8⟩ := nine_cells HRU.out
        obtain ⟨f0, f1, f2, f3, f4, f5, f6, f7, f8⟩ := nine_free HRU.out
        have HF := fun V => Hfin.out V 0 0 zeroCmd U (by rw [if_pos hs0]) (by rw [if_pos hs0]) (by rw [if_pos hs0]) (Chg.refl _ _)
        have HRs : Hid (∀ V : World, V = setAll U R (rowAsk ((c.last : Int) + 1) ((c.pos : Int) + 1) 0 0 zeroCmd) → V.heap[R]? = some (.cells (rowAsk ((c.last : Int) + 1) ((c.pos : Int) + 1) 0 0 zeroCmd).toArray 78 (0, 0))) := fun V hV => by rw [hV]; exact setAll_at HRU.out _ rfl
        have HF := Lib.hid HF
        clear hs0
        go_wp2_with fail
        obtain ⟨V, hV⟩ := hide (setAll U R (rowAsk ((c.last : Int) + 1) ((c.pos : Int) + 1) 0 0 zeroCmd))
        change bodyPost _ _ _ Exit.ret _ (setAll U R (rowAsk ((c.last : Int) + 1) ((c.pos : Int) + 1) 0 0 zeroCmd))
        rw [hV.out]
        clear r0 r1 r2 r3 r4 r5 r6 r7 r8
        obtain ⟨r0, r1, r2, r3, r4, r5, r6, r7, r8⟩ := nine_cells (HRs.out V hV.out.symm)
        refine bodyPost_ret (by simp [results, Try.results35, go_sem, r0, r1, r2, r3, r4, r5, r6, r7, r8]; rfl) rfl ?_
        exact HF.out V hV.out.symm
      · have hs0 : ¬ c.session = 0 := by have := of_decide_eq_true hs; omega
        have y0 := cell_n HqU.out 0 (v := .int .i64 q.kind) rfl
        have y1 := cell_n HqU.out 1 (v := str q.key) rfl
        have y2 := cell_n HqU.out 2 (v := str q.val) rfl
        have y3 := cell_n HqU.out 3 (v := .int .i64 q.iff) rfl
        obtain ⟨x0, x1, x2, x3, x4, x5, x6, x7, x8⟩ := nine_cells HAU.out
        obtain ⟨f0, f1, f2, f3, f4, f5, f6, f7, f8⟩ := nine_free HAU.out
        have Hs0 := Lib.hid hs0
        clear hs0
        go_upto_region 7 with fail
        obtain ⟨U2, hU2⟩ := hide (setFrom U R2 2 [.int .i64 (c.session : Int), .int .i64 ((c.number : Int) + 1), .int .i64 q.kind, str q.key, str q.val, .int .i64 q.iff, .int .i64 0])
        have HcU2 : Hid (Chg (fun j => j = R2) U U2) := by show Chg _ _ _; rw [← hU2.out]; exact setFrom_chg R2 _ U 2
        have HA2 : Hid (U2.heap[R2]? = some (.cells (rowAsk ((c.last : Int) + 1) ((c.pos : Int) + 1) (c.session : Int) ((c.number : Int) + 1) q).toArray 78 (0, 0))) := by
          show _ = _
          rw [← hU2.out]
          exact setFrom_heap R2 78 _ U [.int .i64 ((c.last : Int) + 1), .int .i64 ((c.pos : Int) + 1)] [.int .i64 0, .int .i64 0, .int .i64 0, .string ⟨#[]⟩, .string ⟨#[]⟩, .int .i64 0, .int .i64 0] HAU.out rfl
        have HR2' : Hid (U2.heap[R]? = some (.cells zerosA.toArray 78 (0, 0))) := HcU2.out.at HRU.out (fun e => by have := HRR.out; omega)
        go_cut [] (fun wx => Hid (∃ m, wx = U2.drewN m))
        case first =>
          go_region
          all_goals
            change Exit.then _ _ _ _ (World.drew (setFrom U R2 2 [.int .i64 (c.session : Int), .int .i64 ((c.number : Int) + 1), .int .i64 q.kind, str q.key, str q.val, .int .i64 q.iff, .int .i64 0]))
            rw [hU2.out]
            go_wp2_with fail
            go_meet
            exact ⟨1, rfl⟩
        case rest =>
          obtain ⟨U3, hU3⟩ : ∃ U, U = wc := ⟨_, rfl⟩
          subst hU3
          have hm3 := hcut
          obtain ⟨m3, hU3⟩ := hm3.out
          have HcU3 : Hid (Chg (fun j => j = R2) U U3) := by show Chg _ _ _; rw [hU3]; exact HcU2.out.trans (Chg.drewN _ _ m3)
          have HA3 : Hid (U3.heap[R2]? = some (.cells (rowAsk ((c.last : Int) + 1) ((c.pos : Int) + 1) (c.session : Int) ((c.number : Int) + 1) q).toArray 78 (0, 0))) := by show _ = _; rw [hU3]; exact HA2.out
          have HR3 : Hid (U3.heap[R]? = some (.cells zerosA.toArray 78 (0, 0))) := by show _ = _; rw [hU3]; exact HR2'.out
          have HF := Lib.hid (fun V => Hfin.out V c.session (c.number + 1) q U3 (by rw [if_neg Hs0.out]) (by rw [if_neg Hs0.out]) (by rw [if_neg Hs0.out]) HcU3.out)
          have HRs : Hid (∀ V : World, V = setAll U3 R (rowAsk ((c.last : Int) + 1) ((c.pos : Int) + 1) (c.session : Int) ((c.number : Int) + 1) q) → V.heap[R]? = some (.cells (rowAsk ((c.last : Int) + 1) ((c.pos : Int) + 1) (c.session : Int) ((c.number : Int) + 1) q).toArray 78 (0, 0))) := fun V hV => by rw [hV]; exact setAll_at HR3.out _ rfl
          clear hm3 hcut hU3 x0 x1 x2 x3 x4 x5 x6 x7 x8 f0 f1 f2 f3 f4 f5 f6 f7 f8 y0 y1 y2 y3 d7 d8 d9
          obtain ⟨x0, x1, x2, x3, x4, x5, x6, x7, x8⟩ := nine_cells HA3.out
          obtain ⟨r0, r1, r2, r3, r4, r5, r6, r7, r8⟩ := nine_cells HR3.out
          obtain ⟨f0, f1, f2, f3, f4, f5, f6, f7, f8⟩ := nine_free HR3.out
          go_wp2_with fail
          obtain ⟨V, hV⟩ := hide (setAll U3 R (rowAsk ((c.last : Int) + 1) ((c.pos : Int) + 1) (c.session : Int) ((c.number : Int) + 1) q))
          change bodyPost _ _ _ Exit.ret _ (setAll U3 R (rowAsk ((c.last : Int) + 1) ((c.pos : Int) + 1) (c.session : Int) ((c.number : Int) + 1) q))
          rw [hV.out]
          clear r0 r1 r2 r3 r4 r5 r6 r7 r8
          obtain ⟨r0, r1, r2, r3, r4, r5, r6, r7, r8⟩ := nine_cells (HRs.out V hV.out.symm)
          refine bodyPost_ret (by simp [results, Try.results35, go_sem, r0, r1, r2, r3, r4, r5, r6, r7, r8]; rfl) rfl ?_
          have hF := HF.out V hV.out.symm
          rw [show ((c.number + 1 : Nat) : Int) = (c.number : Int) + 1 from by omega] at hF
          exact hF
end Go.Proofs.Ytckclacdmpcpbaa
