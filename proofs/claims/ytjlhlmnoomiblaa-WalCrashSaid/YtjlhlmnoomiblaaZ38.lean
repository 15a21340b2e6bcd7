/-
  Entries put behind an index: rlog.Extend.
-/
import Derived.Test.YtjlhlmnoomiblaaZ06
import Derived.Deep.RegionHeld3
namespace Go.Proofs.Ytjlhlmnoomiblaa
open Go.RowKit Wm Mm Lg
set_option linter.unusedVariables false
set_option linter.unusedSimpArgs false

theorem Sl.tail1 {F : Nat → Prop} {w : World} {b off c : Nat} {e : EntP} {r : List EntP} (h : Ents F w (.slice (some ⟨b, off, none⟩) (r.length + 1) c) (e :: r)) : Ents F w (.slice (some ⟨b, off + 4, none⟩) r.length (c - 1)) r := by
  have := Sl.drop (k := 1) h (by simp)
  simpa using this
theorem flat_take (l : List EntP) : ∀ m : Nat, (l.flatMap rowE).take (m * 4) = (l.take m).flatMap rowE := by
  induction l with
  | nil => intro m; simp
  | cons x l ih =>
    intro m
    cases m with
    | zero => simp
    | succ m =>
      have e : (m + 1) * 4 = (rowE x).length + m * 4 := by rw [rowE_len]; omega
      rw [List.take_succ_cons, List.flatMap_cons, List.flatMap_cons, e, List.take_length_add_append, ih]
/-- what lies there before an entry is appended -/
structure Pre (w Z : World) (B P : Nat) (base bt : Int) (av : Option Addr) (cv : Nat) (out : List EntP) (x : EntP) (rv : Value) (r : List EntP) : Prop where
  log : Z.heap[B + 1]? = some (.cells (oLog base bt (.slice av out.length cv)) 29 (0, 0))
  own : OwnE (B + 2) Z (.slice av out.length cv) out
  bel : Below B w Z
  ents : Ents (fun k => k < B) Z rv r
  ent : Z.heap[P]? = some (.cells (rowE x).toArray 37 (0, 0))
  far : ∀ g, (Value.slice av out.length cv).ownBlock = some g → g < P
  hP : B + 2 ≤ P
theorem Pre.log' {w Z : World} {B P : Nat} {base bt : Int} {av : Option Addr} {cv : Nat} {out : List EntP} {x : EntP} {rv : Value} {r : List EntP} (h : Pre w Z B P base bt av cv out x rv r) (Y : World) (hy : Below Z.heap.size Z Y) : Pre w Y B P base bt av cv out x rv r :=
  ⟨(hy.block _ (lt_of_block h.log)).trans h.log, own_below h.own hy, h.bel.trans (hy.mono (by have := lt_of_block h.log; omega)), h.ents.frame (Plain.good _) (Agree.below hy), (hy.block _ (lt_of_block h.ent)).trans h.ent, h.far, h.hP⟩
theorem Pre.cut {w Z : World} {B P m : Nat} {base bt : Int} {av : Option Addr} {cv : Nat} {out : List EntP} {x : EntP} {rv : Value} {r : List EntP} (h : Pre w Z B P base bt av cv out x rv r) (hm : m ≤ out.length) : Pre w (Z.setCell ⟨B + 1, 2, none⟩ (.slice av (out.take m).length cv)) B P base bt av cv (out.take m) x rv r := by
  have hl : (out.take m).length = m := by rw [List.length_take]; omega
  have ho := own_take h.own hm
  rw [flat_take] at ho
  have ho2 : OwnE (B + 2) Z (.slice av (out.take m).length cv) (out.take m) := by show World.ownsRow _ _ _ _ _ _ _; rw [hl]; exact ho
  refine ⟨by rw [heap_setCell, if_pos rfl, h.log]; simp [storeIn], own_up ho2 (Up.setCell (B + 2) Z (a := ⟨B + 1, 2, none⟩) (by simp) _) (Nat.le_refl _), h.bel.setCell (by simp) _, h.ents.frame (Plain.good _) (Agree.setCell _ (by simp) _), hp_set_other h.ent (by have := h.hP; simp; omega), fun g hg => h.far g ?_, h.hP⟩
  cases av with
  | none => simp [Value.ownBlock] at hg
  | some a => simpa [Value.ownBlock] using hg
theorem Pre.push {w Z Y : World} {B P : Nat} {base bt : Int} {av av2 : Option Addr} {cv cv2 : Nat} {out : List EntP} {x : EntP} {rv : Value} {r : List EntP} (h : Pre w Z B P base bt av cv out x rv r) (hg : Z.grownBy Y (Value.slice av out.length cv).ownBlock) (ho : Y.ownsRow (B + 2) 37 4 (.slice av2 (out.length + 1) cv2) (out.length + 1) (out.flatMap rowE ++ rowE x)) :
    Y.heap[B + 1]? = some (.cells (oLog base bt (.slice av out.length cv)) 29 (0, 0)) ∧ (Y.setCell ⟨B + 1, 2, none⟩ (.slice av2 (out ++ [x]).length cv2)).heap[B + 1]? = some (.cells (oLog base bt (.slice av2 (out ++ [x]).length cv2)) 29 (0, 0)) ∧
    OwnE (B + 2) (Y.setCell ⟨B + 1, 2, none⟩ (.slice av2 (out ++ [x]).length cv2)) (.slice av2 (out ++ [x]).length cv2) (out ++ [x]) ∧ Below B w (Y.setCell ⟨B + 1, 2, none⟩ (.slice av2 (out ++ [x]).length cv2)) ∧ Ents (fun k => k < B) (Y.setCell ⟨B + 1, 2, none⟩ (.slice av2 (out ++ [x]).length cv2)) rv r ∧
    (Y.setCell ⟨B + 1, 2, none⟩ (.slice av2 (out ++ [x]).length cv2)).heap[P]? = some (.cells (rowE x).toArray 37 (0, 0)) := by
  have hl := lt_of_block h.log
  have h1 := (hg.block _ hl (own_other h.own (by omega))).trans h.log
  have hP := h.hP
  have ho2 : OwnE (B + 2) Y (.slice av2 (out ++ [x]).length cv2) (out ++ [x]) := by
    show World.ownsRow _ _ _ _ _ _ _
    have e1 : (out ++ [x]).length = out.length + 1 := by simp
    have e2 : (out ++ [x]).flatMap rowE = out.flatMap rowE ++ rowE x := by simp
    rw [e1, e2]; exact ho
  refine ⟨h1, by rw [heap_setCell, if_pos rfl, h1]; simp [storeIn], own_up ho2 (Up.setCell (B + 2) Y (a := ⟨B + 1, 2, none⟩) (by simp) _) (Nat.le_refl _), (h.bel.trans (below_own h.own hg (by omega) (by omega))).setCell (by simp) _, ?_, ?_⟩
  · exact (h.ents.frame (Plain.good _) (Agree.grown hg (fun k h3 h4 => own_other h.own (by omega)))).frame (Plain.good _) (Agree.setCell _ (by simp) _)
  · refine hp_set_other ((hg.block _ (lt_of_block h.ent) (fun e => ?_)).trans h.ent) (by simp; omega)
    have := h.far P e.symm
    omega
theorem fits_le {base bt : Int} {out : List EntP} {e : EntP} (h : fits base bt out e = true) (h1 : base ≤ e.idx) : e.idx ≤ base + out.length := by
  by_cases h2 : base + out.length < e.idx
  · unfold fits at h
    rw [termAt_far h1 h2] at h
    simp at h
  · omega
/-- what the loop over the entries keeps -/
structure Run (base p : Int) (out : List EntP) (first : Int) (k n : Nat) : Prop where
  ok : Ok base out
  len : out.length + (n - k) ≤ 2199023255552
  lo : base ≤ p + k
  hi : p + k ≤ base + out.length
  new : first ≠ 0 → p + k = base + out.length
theorem Run.fit {base p bt : Int} {out : List EntP} {first : Int} {k n : Nat} {e : EntP} (h : Run base p out first k n) (hk : k < n) (he : e.idx = p + 1 + k) (hf : fits base bt out e = true) : Run base p out first (k + 1) n := by
  have h1 := fits_le hf (by have := h.lo; omega)
  have h2 := h.len
  have h3 := h.lo
  refine ⟨h.ok, by omega, by omega, by omega, fun hne => ?_⟩
  have := h.new hne
  omega
theorem Run.cut {base p bt : Int} {out : List EntP} {k n m : Nat} {e : EntP} (h : Run base p out 0 k n) (hk : k < n) (he : e.idx = p + 1 + k) (hm : p + k = base + m) : Run base p (out.take m ++ [e]) e.idx (k + 1) n := by
  have h2 := h.len
  have h3 := h.lo
  have h4 := h.hi
  have hl : (out.take m).length = m := by rw [List.length_take]; omega
  have hl2 : (out.take m ++ [e]).length = m + 1 := by simp; omega
  exact ⟨(h.ok.take m).push (by rw [hl]; omega) (by rw [hl]; omega), by rw [hl2]; omega, by omega, by rw [hl2]; omega, fun _ => by rw [hl2]; omega⟩
theorem Run.add {base p bt : Int} {out : List EntP} {first : Int} {k n : Nat} {e : EntP} (h : Run base p out first k n) (hk : k < n) (he : e.idx = p + 1 + k) (hne : first ≠ 0) : Run base p (out ++ [e]) first (k + 1) n := by
  have h2 := h.len
  have h3 := h.lo
  have h5 := h.new hne
  exact ⟨h.ok.push (by omega) (by omega), by simp; omega, by omega, by simp; omega, fun _ => by simp; omega⟩

end Go.Proofs.Ytjlhlmnoomiblaa
