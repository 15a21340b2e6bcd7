/-
  The built-in copy onto rows whose elements have any number of cells; whether two slices overlap. No program in sight.
-/
import Derived.Test.YtnmlkoidmacinaaDoorAp
import Derived.Laws.CopyOwn
import Derived.Lib.Overlaps
import Derived.Lib.AppendZerosOnto
import Derived.Laws.Externs
namespace Go.Proofs.YtnmlkoidmacinaaDoor.Mm
open Go.RowKit
set_option linter.unusedVariables false
set_option linter.unusedSimpArgs false

theorem run_copy_rows {P : Program} (w : World) (dT sT ty elem : TypeId) (size : Nat) (g o dLen dCap : Nat) (a : Addr) (sLen sCap : Nat) (cur : Array Value) (t : TypeId) (m : Nat) (cs : List Value)
    (hu : P.underlying dT = some (.slice elem)) (hs : (P.info? elem).map (·.size) = some size)
    (hg : w.heap[g]? = some (.cells cur t (0, 0))) (hm : Nat.min sLen dLen = m) (hn : cs.length = m * size)
    (hsrc : ∀ j v, cs[j]? = some v → w.cell? (a.add j) = some v) (hfit : o + cs.length ≤ cur.size) (h1 : ∀ v ∈ cs, v.oneCell' = true) :
    (Builtin.copy_ #[dT, sT] ty #[.slice (some ⟨g, o, none⟩) dLen dCap, .slice (some a) sLen sCap]).run P w =
      .ok (goInt m) (w.setRow g (cur.toList.take o ++ cs ++ cur.toList.drop (o + cs.length)).toArray) := by
  have hl := run_loadCells_list (P := P) w a cs hsrc
  have hst := run_storeCells_at P g o t cs 0 cur w hg (by simpa using hfit) h1
  cases hq : P.info? elem with
  | none => simp [hq] at hs
  | some i =>
    have hi : i.size = size := by simpa [hq] using hs
    simp [Builtin.copy_, run_underlying hu, Builtin.lenOf, Builtin.firstCells, sizeOf, typeInfo, hq, hi, hm, ← hn, hl, hst]
/-- cells laid over others -/
theorem wpList_copy_rows {P : Program} {w : World} {ops : Array Oper} {rest : List Oper} {o : Oper} {a : Act} {Q : Exit → Act → World → Prop} (hgd : o.guard = none) (d s : Operand) (dT sT : TypeId)
    (ho : o.op = .call { callee := .builtin .copy, args := #[d, s], argTypes := #[dT, sT] }) (elem : TypeId) (size : Nat) (hu : P.underlying dT = some (.slice elem)) (hsz : (P.info? elem).map (·.size) = some size)
    (g off dLen dCap : Nat) (ad : Addr) (sLen sCap : Nat) (hd : a.eval d = .slice (some ⟨g, off, none⟩) dLen dCap) (hs : a.eval s = .slice (some ad) sLen sCap)
    (cur : List Value) (t : TypeId) (hg : w.heap[g]? = some (.cells cur.toArray t (0, 0))) (m : Nat) (cs : List Value) (hm : Nat.min sLen dLen = m) (hn : cs.length = m * size)
    (hsrc : ∀ j v, cs[j]? = some v → w.cell? (ad.add j) = some v) (hfit : off + cs.length ≤ cur.length) (h1 : ∀ v ∈ cs, v.oneCell' = true)
    (h : ∀ w', Hid (w'.heap[g]? = some (.cells (splice cur off cs).toArray t (0, 0))) → Hid (w.grownBy w' (some g)) → Hid (w'.heap.size = w.heap.size) → wpList P ops Q rest (a.put o.dst (goInt m)) w') : wpList P ops Q (o :: rest) a w := by
  refine wpList_plain hgd fun K hK => ?_
  have hrun := run_copy_rows (P := P) w dT sT o.type elem size g off dLen dCap ad sLen sCap cur.toArray t m cs hu hsz hg hm hn hsrc (by simpa using hfit) h1
  unfold Oper.wp
  simp [execOp, ho, resolve, invoke, builtin, hd, hs, hrun, Result.andThen]
  refine hK _ _ (h _ ?_ ?_ ?_)
  · show _ = _
    simpa [splice] using setRow_heap w g _ _ t _ hg
  · exact ⟨rfl, rfl, rfl, by simp, fun k _ hk => setRow_other w g k _ (fun e => hk (by rw [e]))⟩
  · show _ = _
    simp
theorem step_copy_rows {P : Program} {w : World} {ops : Array Oper} {o : Oper} {a : Act} {K : Act → World → Prop} {Q : Exit → Act → World → Prop} {E : Prop} (hgd : o.guard = none) (d s : Operand) (dT sT : TypeId)
    (ho : o.op = .call { callee := .builtin .copy, args := #[d, s], argTypes := #[dT, sT] }) (elem : TypeId) (size : Nat) (hu : P.underlying dT = some (.slice elem)) (hsz : (P.info? elem).map (·.size) = some size)
    (g off dLen dCap : Nat) (ad : Addr) (sLen sCap : Nat) (hd : a.eval d = .slice (some ⟨g, off, none⟩) dLen dCap) (hs : a.eval s = .slice (some ad) sLen sCap)
    (cur : List Value) (t : TypeId) (hg : w.heap[g]? = some (.cells cur.toArray t (0, 0))) (m : Nat) (cs : List Value) (hm : Nat.min sLen dLen = m) (hn : cs.length = m * size)
    (hsrc : ∀ j v, cs[j]? = some v → w.cell? (ad.add j) = some v) (hfit : off + cs.length ≤ cur.length) (h1 : ∀ v ∈ cs, v.oneCell' = true)
    (h : ∀ w', Hid (w'.heap[g]? = some (.cells (splice cur off cs).toArray t (0, 0))) → Hid (w.grownBy w' (some g)) → Hid (w'.heap.size = w.heap.size) → K (a.put o.dst (goInt m)) w') :
    if Region.wanted o (yielded ops a.tmps) = true then Oper.wp P o a w K Q else E := by
  have hw : Region.wanted o (yielded ops a.tmps) = true := by simp [Region.wanted, hgd]
  rw [if_pos hw]
  have hrun := run_copy_rows (P := P) w dT sT o.type elem size g off dLen dCap ad sLen sCap cur.toArray t m cs hu hsz hg hm hn hsrc (by simpa using hfit) h1
  unfold Oper.wp
  simp [execOp, ho, resolve, invoke, builtin, hd, hs, hrun, Result.andThen]
  refine h _ ?_ ?_ ?_
  · show _ = _
    simpa [splice] using setRow_heap w g _ _ t _ hg
  · exact ⟨rfl, rfl, rfl, by simp, fun k _ hk => setRow_other w g k _ (fun e => hk (by rw [e]))⟩
  · show _ = _
    simp
/-- a copy whose run is known -/
theorem wpList_copy_run {P : Program} {w : World} {ops : Array Oper} {rest : List Oper} {o : Oper} {a : Act} {Q : Exit → Act → World → Prop} (hgd : o.guard = none) (d s : Operand) (t t' : TypeId)
    (ho : o.op = .call { callee := .builtin .copy, args := #[d, s], argTypes := #[t, t'] }) (v u : Value) (hd : a.eval d = v) (hs : a.eval s = u) {v' : Value} {w' : World}
    (hr : (Builtin.copy_ #[t, t'] o.type #[v, u]).run P w = .ok v' w') (h : wpList P ops Q rest (a.put o.dst v') w') : wpList P ops Q (o :: rest) a w := by
  refine wpList_plain hgd fun K hK => ?_
  unfold Oper.wp execOp
  simp only [ho, resolve, invoke, builtin, Sem.run_bind, Sem.run_pure, Result.andThen_ok, List.map_toArray, List.map_cons, List.map_nil, hd, hs, hr]
  exact hK _ _ h
theorem step_copy_run {P : Program} {ops : Array Oper} {o : Oper} {a : Act} {w : World} {K : Act → World → Prop} {Q : Exit → Act → World → Prop} {E : Prop}
    (hg : o.guard = none) (d x : Operand) (dT sT : TypeId) (hop : o.op = Op.call { callee := Callee.builtin Builtin.copy, args := #[d, x], argTypes := #[dT, sT] })
    (v u : Value) (hd : a.eval d = v) (hx : a.eval x = u) {v' : Value} {w' : World} (hr : (Builtin.copy_ #[dT, sT] o.type #[v, u]).run P w = .ok v' w') (hK : K (a.put o.dst v') w') :
    if Region.wanted o (yielded ops a.tmps) = true then Oper.wp P o a w K Q else E := by
  have hw : Region.wanted o (yielded ops a.tmps) = true := by simp [Region.wanted, hg]
  rw [if_pos hw]
  unfold Oper.wp
  simp [execOp, hop, resolve, invoke, builtin, hd, hx, hr, Result.andThen]
  exact hK
/-- a copy onto a row that is known whole: a world, and what it is -/
theorem copy_world {P : Program} (w : World) (dT sT elem : TypeId) (size : Nat) (g o dLen : Nat) (a : Addr) (sLen : Nat) (cur : List Value) (t : TypeId) (m : Nat) (cs : List Value)
    (hu : P.underlying dT = some (.slice elem)) (hs : (P.info? elem).map (·.size) = some size)
    (hg : w.heap[g]? = some (.cells cur.toArray t (0, 0))) (hm : Nat.min sLen dLen = m) (hn : cs.length = m * size)
    (hsrc : ∀ j v, cs[j]? = some v → w.cell? (a.add j) = some v) (hfit : o + cs.length ≤ cur.length) (h1 : ∀ v ∈ cs, v.oneCell' = true) :
    ∃ w', (∀ ty dc sc, (Builtin.copy_ #[dT, sT] ty #[.slice (some ⟨g, o, none⟩) dLen dc, .slice (some a) sLen sc]).run P w = .ok (goInt m) w') ∧ w'.heap[g]? = some (.cells (splice cur o cs).toArray t (0, 0)) ∧ w.grownBy w' (some g) ∧ w'.heap.size = w.heap.size := by
  refine ⟨_, fun ty dc sc => run_copy_rows (P := P) w dT sT ty elem size g o dLen dc a sLen sc cur.toArray t m cs hu hs hg hm hn hsrc (by simpa using hfit) h1, ?_, ⟨rfl, rfl, rfl, by simp, fun k _ hk => setRow_other w g k _ (fun e => hk (by rw [e]))⟩, by simp⟩
  simpa [splice] using setRow_heap w g _ _ t _ hg
/-- a slice in another block does not overlap a row of one's own -/
theorem run_overlaps_own {P : Program} (w : World) (tS tR e : TypeId) (ht : P.underlying tS = some (.slice e)) (size : Nat) (hz : ∀ w, (Go.sizeOf e).run P w = .ok size w)
    (A B offB : Nat) (ca cb : Array Value) (ta tb : TypeId) (la lca lb lcb : Nat) (hne : A ≠ B) (hA : w.heap[A]? = some (.cells ca ta (0, 0))) (hB : w.heap[B]? = some (.cells cb tb (0, 0))) (hBs : cb.size ≠ 0) :
    (Extern.SlicesOverlaps.overlaps #[tS, tS] #[tR] #[.slice (some ⟨A, 0, none⟩) la lca, .slice (some ⟨B, offB, none⟩) lb lcb]).run P w = .ok (.bool false) w :=
  Lib.run_overlaps_apart w tS tR e ht size hz ⟨A, 0, none⟩ ⟨B, offB, none⟩ la lca lb lcb hne ta tb ca.size cb.size (by simp [World.shape?, hA]) (by simp [World.shape?, hB]) hBs (by simp [World.frozen?, hA]) (by simp [World.frozen?, hA])
/-- an own row out of a block that is known whole -/
theorem own_of_block {w : World} {S g n cap size : Nat} {e : TypeId} {cur xs : List Value} (hg : w.heap[g]? = some (.cells cur.toArray e (0, 0))) (hS : S ≤ g) (hn : n ≤ cap) (hc : cap ≤ maxLen) (hcur : cur.length = cap * size) (hx : cur.take (n * size) = xs) :
    w.ownsRow S e size (.slice (some ⟨g, 0, none⟩) n cap) n xs := by
  have hl : n * size ≤ cap * size := Nat.mul_le_mul_right _ hn
  refine ⟨by rw [← hx, List.length_take]; omega, Or.inr ⟨g, cap, cur.toArray, rfl, hS, hg, hn, hc, by simpa using hcur, by simpa using hx⟩⟩
theorem own_block {w : World} {S g n cap size : Nat} {e : TypeId} {xs : List Value} {a : Option Addr} (h : w.ownsRow S e size (.slice a n cap) n xs) (ha : a ≠ none) :
    ∃ g cur, a = some ⟨g, 0, none⟩ ∧ S ≤ g ∧ w.heap[g]? = some (.cells (List.toArray cur) e (0, 0)) ∧ n ≤ cap ∧ cap ≤ maxLen ∧ cur.length = cap * size ∧ cur.take (n * size) = xs := by
  have hl := h.1
  rcases h.2 with ⟨hv, _⟩ | ⟨g', cap', cur, hv, hb, hg, hnc, hcm, hcs, ht⟩
  · injection hv with e1; exact absurd e1 ha
  · injection hv with e1 e2 e3
    subst e1 e3
    exact ⟨g', cur.toList, rfl, hb, by simpa using hg, hnc, hcm, by simpa using hcs, ht⟩
theorem splice_insert {α : Type} {cur A B R : List α} (h : cur.take (A.length + B.length) = A ++ B) (hl : A.length + R.length + B.length ≤ cur.length) :
    (splice (splice cur (A.length + R.length) B) A.length R).take (A.length + R.length + B.length) = A ++ (R ++ B) := by
  have hA : cur.take A.length = A := by
    have := congrArg (List.take A.length) h
    rw [List.take_take, Nat.min_eq_left (by omega), List.take_left] at this
    exact this
  have e1 : (splice cur (A.length + R.length) B).take A.length = A := by
    unfold splice
    rw [List.take_append_of_le_length (by rw [List.length_take]; omega), List.take_take, Nat.min_eq_left (by omega), hA]
  have e2 : (splice cur (A.length + R.length) B).drop (A.length + R.length) = B ++ cur.drop (A.length + R.length + B.length) := by
    unfold splice
    have hlt : (cur.take (A.length + R.length)).length = A.length + R.length := by rw [List.length_take]; omega
    have gen : ∀ (X Y : List α) (n : Nat), X.length = n → (X ++ Y).drop n = Y := by intro X Y n h; subst h; simp
    exact gen _ _ _ hlt
  show ((splice cur (A.length + R.length) B).take A.length ++ (R ++ (splice cur (A.length + R.length) B).drop (A.length + R.length))).take _ = _
  rw [e1, e2]
  have e3 : A ++ (R ++ (B ++ cur.drop (A.length + R.length + B.length))) = (A ++ (R ++ B)) ++ cur.drop (A.length + R.length + B.length) := by simp
  rw [e3]
  have hl2 : (A ++ (R ++ B)).length = A.length + R.length + B.length := by simp; omega
  rw [← hl2, List.take_left]
theorem splice_fill {α : Type} {cur A B R : List α} (h : cur.take A.length = A) (hl : A.length + R.length + B.length ≤ cur.length) :
    (splice (splice cur A.length R) (A.length + R.length) B).take (A.length + R.length + B.length) = A ++ (R ++ B) := by
  have e0 : splice cur A.length R = (A ++ R) ++ cur.drop (A.length + R.length) := by unfold splice; rw [h]; simp
  have hl1 : (A ++ R).length = A.length + R.length := by simp
  unfold splice at e0 ⊢
  rw [e0]
  have e1 : ((A ++ R) ++ cur.drop (A.length + R.length)).take (A.length + R.length) = A ++ R := by rw [← hl1, List.take_left]
  rw [e1]
  have e3 : ∀ Z : List α, A ++ R ++ (B ++ Z) = (A ++ (R ++ B)) ++ Z := by intro Z; simp
  rw [e3]
  have hl2 : (A ++ (R ++ B)).length = A.length + R.length + B.length := by simp; omega
  rw [← hl2, List.take_left]
theorem splice_len {α : Type} {L cs : List α} {off : Nat} (h : off + cs.length ≤ L.length) : (splice L off cs).length = L.length := length_splice L off cs h
end Go.Proofs.YtnmlkoidmacinaaDoor.Mm
