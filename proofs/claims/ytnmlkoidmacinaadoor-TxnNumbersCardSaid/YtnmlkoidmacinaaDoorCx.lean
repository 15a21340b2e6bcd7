/-
  Blocks of several cells: what their cells hold, and what writing all of them does.
-/
import Derived.Test.YtnmlkoidmacinaaDoorMm
namespace Go.Proofs.YtnmlkoidmacinaaDoor.Mm
open Go.RowKit
set_option linter.unusedVariables false

theorem cell_n {w : World} {b : Nat} {xs : Array Value} {t : TypeId} (h : w.heap[b]? = some (.cells xs t (0, 0))) (i : Nat) {v : Value} (hv : xs[i]? = some v) : w.cell? ⟨b, i, none⟩ = some v := by
  simp [World.cell?, h, hv]
theorem free_n {w : World} {b : Nat} {xs : Array Value} {t : TypeId} (h : w.heap[b]? = some (.cells xs t (0, 0))) (i : Nat) : w.frozen? ⟨b, i, none⟩ = false := by
  simp [World.frozen?, h]

/-- the cells of block b from i on are written -/
def setFrom (w : World) (b : Nat) : Nat → List Value → World
  | _, [] => w
  | i, v :: vs => setFrom (w.setCell ⟨b, i, none⟩ v) b (i + 1) vs
abbrev setAll (w : World) (b : Nat) (vs : List Value) : World := setFrom w b 0 vs

theorem setFrom_heap (b : Nat) (t : TypeId) : ∀ (vs : List Value) (w : World) (pre rest : List Value), w.heap[b]? = some (.cells (pre ++ rest).toArray t (0, 0)) → vs.length = rest.length →
    (setFrom w b pre.length vs).heap[b]? = some (.cells (pre ++ vs).toArray t (0, 0))
  | [], w, pre, [], h, _ => h
  | v :: vs, w, pre, r :: rest, h, hl => by
    have h1 : (w.setCell ⟨b, pre.length, none⟩ v).heap[b]? = some (.cells ((pre ++ [v]) ++ rest).toArray t (0, 0)) := by
      rw [heap_setCell]
      simp [h, storeIn]
    have := setFrom_heap b t vs _ (pre ++ [v]) rest h1 (by simpa using hl)
    rw [List.length_append] at this
    simpa [setFrom] using this
  | [], _, _, _ :: _, _, hl => by simp at hl
  | _ :: _, _, _, [], _, hl => by simp at hl
theorem setAll_at {w : World} {b : Nat} {xs : List Value} {t : TypeId} (h : w.heap[b]? = some (.cells xs.toArray t (0, 0))) (vs : List Value) (hl : vs.length = xs.length) :
    (setAll w b vs).heap[b]? = some (.cells vs.toArray t (0, 0)) := setFrom_heap b t vs w [] xs h hl
theorem setFrom_other {b k : Nat} (hk : b ≠ k) : ∀ (vs : List Value) (w : World) (i : Nat), (setFrom w b i vs).heap[k]? = w.heap[k]?
  | [], _, _ => rfl
  | v :: vs, w, i => by
    rw [setFrom, setFrom_other hk vs, heap_setCell, if_neg hk]
theorem setAll_other {w : World} {b k : Nat} {o : Obj} (h : w.heap[k]? = some o) (hk : b ≠ k) (vs : List Value) : (setAll w b vs).heap[k]? = some o := (setFrom_other hk vs w 0).trans h
theorem setFrom_size (b : Nat) : ∀ (vs : List Value) (w : World) (i : Nat), (setFrom w b i vs).heap.size = w.heap.size
  | [], _, _ => rfl
  | v :: vs, w, i => by rw [setFrom, setFrom_size b vs]; simp
theorem setFrom_below {w : World} {B b : Nat} (hb : B ≤ b) : ∀ (vs : List Value) (w1 : World) (i : Nat), Below B w w1 → Below B w (setFrom w1 b i vs)
  | [], _, _, h => h
  | v :: vs, w1, i, h => setFrom_below hb vs _ _ (h.setCell (p := ⟨b, i, none⟩) hb v)
theorem setAll_below {w w1 : World} {B b : Nat} (h : Below B w w1) (hb : B ≤ b) (vs : List Value) : Below B w (setAll w1 b vs) := setFrom_below hb vs w1 0 h
theorem grown_fresh' {w w1 : World} {r : Option Nat} (h : w.grownBy w1 r) {a : Addr} (ha : w.heap.size ≤ a.block) (v : Value) : w.grownBy (w1.setCell a v) r :=
  ⟨h.os, h.tape, h.output, by simpa using h.size, fun k hk hn => by rw [heap_setCell, if_neg (by omega)]; exact h.block k hk hn⟩
theorem setFrom_grown {w : World} {r : Option Nat} {b : Nat} (hb : w.heap.size ≤ b) : ∀ (vs : List Value) (w1 : World) (i : Nat), w.grownBy w1 r → w.grownBy (setFrom w1 b i vs) r
  | [], _, _, h => h
  | v :: vs, w1, i, h => setFrom_grown hb vs _ _ (grown_fresh' h hb v)
theorem setAll_grown {w w1 : World} {r : Option Nat} (h : w.grownBy w1 r) {b : Nat} (hb : w.heap.size ≤ b) (vs : List Value) : w.grownBy (setAll w1 b vs) r := setFrom_grown hb vs w1 0 h

/-- all blocks from S on that lie in w lie in w' as they were -/
def Up (S : Nat) (w w' : World) : Prop := ∀ k, S ≤ k → k < w.heap.size → w'.heap[k]? = w.heap[k]?
theorem Up.refl (S : Nat) (w : World) : Up S w w := fun _ _ _ => rfl
theorem Up.trans {S : Nat} {a b c : World} (h : Up S a b) (k : Up S b c) (hs : a.heap.size ≤ b.heap.size) : Up S a c := fun i h1 h2 => (k i h1 (by omega)).trans (h i h1 h2)
theorem Up.mono {S S' : Nat} {w w' : World} (h : Up S w w') (hs : S ≤ S') : Up S' w w' := fun k h1 h2 => h k (by omega) h2
theorem Up.ofGrown {S b : Nat} {w w' : World} (h : w.grownBy w' (some b)) (hb : b < S) : Up S w w' := fun k h1 h2 => h.block k h2 (by simp; omega)
theorem Up.ofBelow {S : Nat} {w w' : World} (h : Below w.heap.size w w') : Up S w w' := fun k _ h2 => h.block k h2
theorem Up.alloc (S : Nat) (w : World) (o : Obj) : Up S w (w.alloc o) := fun k _ h2 => hp_past _ _ (by omega)
theorem Up.setCell (S : Nat) (w : World) {a : Addr} (ha : a.block < S) (v : Value) : Up S w (w.setCell a v) := fun k h1 _ => by rw [heap_setCell, if_neg (by omega)]
theorem Up.setAll (S : Nat) (w : World) {b : Nat} (hb : b < S) (vs : List Value) : Up S w (Mm.setAll w b vs) := fun k h1 _ => setFrom_other (by omega) vs w 0
theorem own_up {w w' : World} {S base : Nat} {e : TypeId} {size : Nat} {v : Value} {n : Nat} {xs : List Value} (h : w.ownsRow base e size v n xs) (hu : Up S w w') (hs : S ≤ base) : w'.ownsRow base e size v n xs := by
  refine ⟨h.1, ?_⟩
  rcases h.2 with h0 | ⟨g, cap, cur, h1, hb, hg, h2⟩
  · exact Or.inl h0
  · exact Or.inr ⟨g, cap, cur, h1, hb, (hu g (by omega) (lt_of_block hg)).trans hg, h2⟩
end Go.Proofs.YtnmlkoidmacinaaDoor.Mm
