/-
  Reading tables, the panicking reader's way.
-/
import Derived.Test.YtkcllpbbjlbfaaaTg
namespace Go.Proofs.Ytkcllpbbjlbfaaa
open Go.RowKit Wm Mm
set_option linter.unusedVariables false

def rdPairs : Nat → List PairP → List UInt8 → Res (List PairP)
  | 0, acc, s => .ok (acc, s)
  | k + 1, acc, s =>
    match rdText 16 s with
    | .error z => .error z
    | .ok (x, s1) => match rdText 64 s1 with
      | .error z => .error z
      | .ok (y, s2) => match rdNum s2 with
        | .error z => .error z
        | .ok (n, s3) => rdPairs k (acc ++ [⟨x, y, n⟩]) s3
def rdSess : Nat → List SessP → List UInt8 → Res (List SessP)
  | 0, acc, s => .ok (acc, s)
  | k + 1, acc, s =>
    match rdNum s with
    | .error z => .error z
    | .ok (x, s1) => match rdNum s1 with
      | .error z => .error z
      | .ok (y, s2) => match rdNum s2 with
        | .error z => .error z
        | .ok (n, s3) => match rdRes s3 with
          | .error z => .error z
          | .ok (r, s4) => rdSess k (acc ++ [⟨x, y, r.kind, r.val, r.ver, r.keys, n⟩]) s4
def rdTabE (tm : Nat) (ps : List PairP) (ss : List SessP) (s : List UInt8) : Res Tab := if tabB ⟨ps, ss, tm⟩ = true then .ok (⟨ps, ss, tm⟩, s) else .error 6
def rdTabS (tm : Nat) (ps : List PairP) (s : List UInt8) : Res Tab :=
  match rdUpTo 8 s with
  | .error z => .error z
  | .ok (m, s1) => match rdSess m [] s1 with
    | .error z => .error z
    | .ok (ss, s2) => rdTabE tm ps ss s2
def rdTab (s : List UInt8) : Res Tab :=
  match rdNum s with
  | .error z => .error z
  | .ok (tm, s1) => match rdUpTo 32 s1 with
    | .error z => .error z
    | .ok (m, s2) => match rdPairs m [] s2 with
      | .error z => .error z
      | .ok (ps, s3) => rdTabS tm ps s3
def GetsTab (S b : Nat) (w : World) (res : Res Tab) (e : Ending) (w' : World) : Prop :=
  match res with
  | .ok (q, t) => ∃ vp vs, e = .returned (.agg #[vp, vs, .int .i64 q.time]) ∧ TabF S w' vp vs q ∧ Rd w' b t ∧ w.grownBy w' (some b)
  | .error z => e = stopped z ∧ w.grownBy w' (some b)

/-- what stands while a table is read: the result's cells, the local's cells, the reader -/
structure LocSt (w W : World) (b B Q : Nat) (T : TypeId) (zero loc : List Value) (u : List UInt8) : Prop where
  res : W.heap[B]? = some (.cells zero.toArray T (0, 0))
  loc : W.heap[Q]? = some (.cells loc.toArray T (0, 0))
  rd : Rd W b u
  grown : w.grownBy W (some b)
theorem LocSt.push {w wr w1 w2 : World} {b B Q fi n size : Nat} {e T : TypeId} {zero loc xs : List Value} {u t : List UInt8} {v : Value} {o : Obj} (h : LocSt w wr b B Q T zero loc u) (hB : w.heap.size = B) (hb : b < B) (hQ : B < Q)
    (hr : Rd w1 b t) (hg : wr.drew.grownBy w1 (some b)) (hown : wr.ownsRow (Q + 1) e size v n xs) (hgrow : (w1.alloc o).grownBy w2 v.ownBlock) (v' : Value) :
    w2.heap[Q]? = some (.cells loc.toArray T (0, 0)) ∧ LocSt w (w2.setCell ⟨Q, fi, none⟩ v') b B Q T zero (loc.set fi v') t ∧ UpX (Q + 1) v.ownBlock w1 (w2.setCell ⟨Q, fi, none⟩ v') := by
  have hsz := hg.size
  have hQl : Q < wr.heap.size := lt_of_block h.loc
  have hsz' : wr.heap.size ≤ w1.heap.size := hsz
  have own1 : w1.ownsRow (Q + 1) e size v n xs := hown.drew.kept hg (Or.inr (own_other hown (by omega)).symm)
  have keep : ∀ k, k ≠ b → k < Q + 1 → w2.heap[k]? = wr.heap[k]? := fun k hk hl => by
    have e1 := hg.block k (by show k < wr.heap.size; omega) (by simpa using hk)
    have e2 : (w1.alloc o).heap[k]? = w1.heap[k]? := hp_past _ _ (by omega)
    have e3 := hgrow.block k (by simp only [World.size_alloc]; omega) (own_other own1 hl)
    exact e3.trans (e2.trans e1)
  have hq2 := (keep Q (by omega) (by omega)).trans h.loc
  have hr2 : Rd w2 b t := hr.kept (w' := w2) (row := v.ownBlock) (grown_trans (World.grownBy_alloc w1 o _) hgrow) (own_other own1 (by omega))
  have own2 : (w1.alloc o).ownsRow (Q + 1) e size v n xs := own1.alloc _
  have g1 : w.grownBy (w1.alloc o) (some b) := grown_trans (grown_trans (grown_drew h.grown) hg) (World.grownBy_alloc w1 o _)
  refine ⟨hq2, ⟨?_, ?_, ?_, ?_⟩, ?_⟩
  · exact hp_set_other ((keep B (by omega) (by omega)).trans h.res) (by simp; omega)
  · rw [heap_setCell, if_pos rfl, hq2]; simp [storeIn]
  · exact ⟨hp_set_other hr2.1 (by simp; omega), hr2.2⟩
  · exact grown_fresh' (grown_own g1 own2 (by omega) hgrow) (by simp; omega) _
  · intro k h1 h2 h3
    rw [heap_setCell, if_neg (by simp; omega)]
    exact (hgrow.block k (by simp only [World.size_alloc]; omega) h3).trans (hp_past _ _ (by omega))
theorem LocSt.setOwn {w2 : World} {Q n size : Nat} {e : TypeId} {xs : List Value} {v : Value} (h : w2.ownsRow (Q + 1) e size v n xs) (fi : Nat) (v' : Value) : (w2.setCell ⟨Q, fi, none⟩ v').ownsRow (Q + 1) e size v n xs :=
  own_up h (Up.setCell (Q + 1) w2 (a := ⟨Q, fi, none⟩) (by simp) _) (Nat.le_refl _)
theorem LocSt.read {w wr w1 : World} {b B Q : Nat} {T : TypeId} {zero loc : List Value} {u t : List UInt8} (h : LocSt w wr b B Q T zero loc u) (hb : b < B) (hQ : B < Q) (hr : Rd w1 b t) (hg : wr.grownBy w1 (some b)) : LocSt w w1 b B Q T zero loc t :=
  ⟨(hg.block B (lt_of_block h.res) (by simp; omega)).trans h.res, (hg.block Q (lt_of_block h.loc) (by simp; omega)).trans h.loc, hr, grown_trans h.grown hg⟩
abbrev tabZero : List Value := [.slice none 0 0, .slice none 0 0, .int .i64 0]
theorem own_new {S H : Nat} {w : World} {e : TypeId} {size n : Nat} {v : Value} {xs : List Value} {x : Option Nat} (h : w.ownsRow S e size v n xs) (hS : H ≤ S) (hx : ∀ g, x = some g → g < H) : ∀ g, v.ownBlock = some g → some g ≠ x :=
  fun g hg hgx => by have := (h.lt g hg).1; have := hx g hgx.symm; omega
end Go.Proofs.Ytkcllpbbjlbfaaa
