/-
  The document's reader, followed with what is still to be read in hand; a local block beside it.
-/
import Derived.Test.YtkcllpbbjlbfaaaRg
import Derived.Test.YtkcllpbbjlbfaaaSs
namespace Go.Proofs.Ytkcllpbbjlbfaaa
open Go.RowKit Wm Mm
set_option linter.unusedVariables false

/-- one reading behind the other -/
def bindR {α β : Type} (r : Res α) (K : α → List UInt8 → Res β) : Res β :=
  match r with
  | .error z => .error z
  | .ok (x, s) => K x s
theorem bindR_assoc {α β γ : Type} (r : Res α) (K : α → List UInt8 → Res β) (L : β → List UInt8 → Res γ) : bindR (bindR r K) L = bindR r (fun x s => bindR (K x s) L) := by
  rcases r with z | ⟨x, s⟩ <;> rfl
/-- in this state what is still to be read comes to res -/
def Cps {β : Type} (res : Res β) (K : List UInt8 → Res β) (σ : St) : Prop :=
  match σ with
  | .ok u => K u = res
  | .error z => res = .error z ∧ z ≠ 0
theorem Cps.bind {α β : Type} {res : Res β} {p : List UInt8 → Res α} {K : α → List UInt8 → Res β} {σ : St} (x0 : α) (hp : ∀ s z, p s = .error z → z ≠ 0) (h : Cps res (fun u => bindR (p u) K) σ) : Cps res (K (stepV x0 p σ)) (stepS p σ) := by
  cases σ with
  | error z => exact h
  | ok u =>
    have h' : bindR (p u) K = res := h
    rcases hx : p u with z | ⟨x, s⟩
    · rw [hx] at h'
      have e1 : stepS p (.ok u) = .error z := by simp [stepS, hx, rstOf]
      rw [e1]
      exact ⟨h'.symm, hp u z hx⟩
    · rw [hx] at h'
      have e1 : stepS p (.ok u) = .ok s := by simp [stepS, hx, rstOf]
      have e2 : stepV x0 p (.ok u) = x := by simp [stepV, hx, rvalOf]
      rw [e1, e2]
      exact h'
theorem Cps.err {β : Type} {res : Res β} {K K' : List UInt8 → Res β} {z : Int} (h : Cps res K (.error z)) : Cps res K' (.error z) := h
theorem Cps.of {β : Type} {res : Res β} {K K' : List UInt8 → Res β} {σ : St} (h : Cps res K σ) (e : ∀ u, K u = K' u) : Cps res K' σ := by
  cases σ with
  | error z => exact h
  | ok u => exact (e u).symm.trans h
theorem rdNum_err' (s : List UInt8) (z : Int) (h : rdNum s = .error z) : z ≠ 0 := rdNum_err h
theorem stepV_upTo_le (n : Nat) (σ : St) : stepV 0 (rdUpTo n) σ ≤ n := by
  cases σ with
  | error z => exact Nat.zero_le _
  | ok u =>
    rcases hx : rdUpTo n u with y | ⟨x, t⟩
    · simp [stepV, hx, rvalOf]
    · simp [stepV, hx, rvalOf]; exact (rdUpTo_le hx).1
/-- what the end says: the first error, or one if something is left -/
theorem Cps.fin {β : Type} {res : Res β} {x : β} {σ : St} (h : Cps res (fun u => .ok (x, u)) σ) : (endS σ = 0 → full res = .ok x) ∧ (endS σ ≠ 0 → full res = .error (endS σ)) := by
  cases σ with
  | error z =>
    obtain ⟨rfl, hz⟩ := h
    exact ⟨fun e => absurd e hz, fun _ => rfl⟩
  | ok u =>
    have h' : Except.ok (x, u) = res := h
    subst h'
    cases u with
    | nil => exact ⟨fun _ => rfl, fun e => absurd rfl e⟩
    | cons _ _ => exact ⟨fun e => by simp [endS] at e, fun _ => rfl⟩
theorem Cps.bad {β : Type} {res : Res β} {y : Int} (hy : y ≠ 0) {σ : St} {K : List UInt8 → Res β} (h : Cps res (fun _ => .error y) σ) : Cps res K (badS y σ) := by
  cases σ with
  | error z => exact h
  | ok u => exact ⟨Eq.symm h, hy⟩

/-- a round of a loop: a block of its own, the reader -/
structure It (wr W : World) (R P : Nat) (T : TypeId) (xs : List Value) (σ : St) : Prop where
  g : wr.grownBy W (some R)
  rs : Rs W R σ
  loc : W.heap[P]? = some (.cells xs.toArray T (0, 0))
  hP : wr.heap.size ≤ P
  hR : R < wr.heap.size
theorem It.read {wr W W' : World} {R P : Nat} {T : TypeId} {xs : List Value} {σ σ' : St} (h : It wr W R P T xs σ) (hr : Rs W' R σ') (hg : W.grownBy W' (some R)) : It wr W' R P T xs σ' :=
  ⟨grown_trans h.g hg, hr, (hg.block P (lt_of_block h.loc) (by have := h.hP; have := h.hR; simp; omega)).trans h.loc, h.hP, h.hR⟩
theorem It.put {wr W : World} {R P : Nat} {T : TypeId} {xs : List Value} {σ : St} (h : It wr W R P T xs σ) (i : Nat) (v : Value) : It wr (W.setCell ⟨P, i, none⟩ v) R P T (xs.set i v) σ :=
  ⟨grown_fresh' h.g (by simpa using h.hP) v, h.rs.other' (by have := h.hP; have := h.hR; simp; omega) v, by rw [heap_setCell, if_pos rfl, h.loc]; simp [storeIn], h.hP, h.hR⟩
theorem It.pass {wr W W' : World} {R P : Nat} {T : TypeId} {xs : List Value} {σ : St} (h : It wr W R P T xs σ) (hb : Below W.heap.size W W') : It wr W' R P T xs σ :=
  ⟨grown_trans h.g (below_grown hb _), h.rs.kept (below_grown hb none) (by simp), (hb.block _ (lt_of_block h.loc)).trans h.loc, h.hP, h.hR⟩
theorem It.lay {wr W : World} {R : Nat} {T : TypeId} {xs : List Value} {σ : St} (hg : wr.grownBy W (some R)) (hr : Rs W R σ) (hR : R < wr.heap.size) : It wr (W.alloc (.cells xs.toArray T)) R W.heap.size T xs σ :=
  ⟨grown_trans hg (World.grownBy_alloc _ _ _), hr.kept (World.grownBy_alloc W _ none) (by simp), hp_at _ _ rfl, hg.size, hR⟩
/-- an append onto a row that is fresh in the round -/
theorem It.row {wr W W' : World} {R P base size n : Nat} {T e : TypeId} {xs ys : List Value} {σ : St} {v : Value} (h : It wr W R P T xs σ) (ho : W.ownsRow base e size v n ys) (hb : P < base) (hg : W.grownBy W' v.ownBlock) : It wr W' R P T xs σ :=
  have hP := h.hP
  have hR := h.hR
  ⟨grown_own h.g ho (by omega) hg, h.rs.kept hg (own_other ho (by omega)), (hg.block _ (lt_of_block h.loc) (own_other ho hb)).trans h.loc, h.hP, h.hR⟩
end Go.Proofs.Ytkcllpbbjlbfaaa
