/-
  How values stand for data: cells, slices of records; in which blocks the data lies. No program in sight.
-/
import Derived.Test.YtnmlkoidmacinaaDoorMm
import Derived.Test.YtnmlkoidmacinaaDoorCx
namespace Go.Proofs.YtnmlkoidmacinaaDoor.Mm
open Go.RowKit
set_option linter.unusedVariables false

/-- the blocks of F are as they were -/
def Agree (F : Nat → Prop) (w w' : World) : Prop := w.heap.size ≤ w'.heap.size ∧ ∀ k, F k → k < w.heap.size → w'.heap[k]? = w.heap[k]?
theorem Agree.refl (F : Nat → Prop) (w : World) : Agree F w w := ⟨Nat.le_refl _, fun _ _ _ => rfl⟩
theorem Agree.trans {F : Nat → Prop} {a b c : World} (h : Agree F a b) (k : Agree F b c) : Agree F a c :=
  ⟨Nat.le_trans h.1 k.1, fun i h1 h2 => (k.2 i h1 (Nat.lt_of_lt_of_le h2 h.1)).trans (h.2 i h1 h2)⟩
theorem Agree.sub {F G : Nat → Prop} {w w' : World} (h : Agree F w w') (hs : ∀ k, G k → F k) : Agree G w w' := ⟨h.1, fun k h1 h2 => h.2 k (hs k h1) h2⟩
theorem Agree.below {F : Nat → Prop} {w w' : World} (h : Below w.heap.size w w') : Agree F w w' := ⟨h.size, fun k _ h2 => h.block k h2⟩
theorem Agree.belowB {F : Nat → Prop} {B : Nat} {w w' : World} (h : Below B w w') (hF : ∀ k, F k → k < B) : Agree F w w' := ⟨h.size, fun k h1 _ => h.block k (hF k h1)⟩
theorem Agree.grown {F : Nat → Prop} {w w' : World} {r : Option Nat} (h : w.grownBy w' r) (hF : ∀ k, F k → k < w.heap.size → some k ≠ r) : Agree F w w' := ⟨h.size, fun k h1 h2 => h.block k h2 (hF k h1 h2)⟩
theorem Agree.alloc (F : Nat → Prop) (w : World) (o : Obj) : Agree F w (w.alloc o) := ⟨by simp, fun k _ h2 => hp_past _ _ (by omega)⟩
theorem Agree.drew (F : Nat → Prop) (w : World) : Agree F w w.drew := ⟨Nat.le_refl _, fun _ _ _ => rfl⟩
theorem Agree.drewN (F : Nat → Prop) (w : World) (n : Nat) : Agree F w (w.drewN n) := ⟨Nat.le_refl _, fun _ _ _ => rfl⟩
theorem Agree.setCell {F : Nat → Prop} (w : World) {a : Addr} (ha : ¬ F a.block) (v : Value) : Agree F w (w.setCell a v) :=
  ⟨by simp, fun k h1 _ => by rw [heap_setCell, if_neg (fun (e : a.block = k) => ha (by rw [e]; exact h1))]⟩

/-- a way in which cells stand for something, whose rest lies in the blocks of F -/
abbrev Rep (α : Type) := (Nat → Prop) → World → List Value → α → Prop
structure Rep.Good {α : Type} (R : Rep α) : Prop where
  frame : ∀ {F : Nat → Prop} {w w' : World} {vs : List Value} {y : α}, R F w vs y → Agree F w w' → R F w' vs y
  weak : ∀ {F G : Nat → Prop} {w : World} {vs : List Value} {y : α}, R F w vs y → (∀ k, F k → k < w.heap.size → G k) → R G w vs y
/-- cells that hold all of it -/
def Plain {α : Type} (row : α → List Value) : Rep α := fun _ _ vs y => vs = row y
theorem Plain.good {α : Type} (row : α → List Value) : Rep.Good (Plain row) := ⟨fun h _ => h, fun h _ => h⟩
/-- a slice of records of so many cells -/
def Sl {α : Type} (size : Nat) (R : Rep α) (F : Nat → Prop) (w : World) (v : Value) (l : List α) : Prop :=
  ∃ ao cap, v = .slice ao l.length cap ∧ (l.length ≤ cap ∧ (ao = none → cap = 0)) ∧ l.length ≤ 9223372036854775807 ∧ (l ≠ [] → ∃ b off, ao = some ⟨b, off, none⟩ ∧ F b ∧ b < w.heap.size ∧
    ∀ j y, l[j]? = some y → ∃ us : List Value, us.length = size ∧ R F w us y ∧ ∀ i u, us[i]? = some u → w.cell? ⟨b, off + j * size + i, none⟩ = some u)
theorem Sl.frame {α : Type} {size : Nat} {R : Rep α} (hR : R.Good) {F : Nat → Prop} {w w' : World} {v : Value} {l : List α} (h : Sl size R F w v l) (ha : Agree F w w') : Sl size R F w' v l := by
  obtain ⟨ao, cap, rfl, hc, hm, hx⟩ := h
  refine ⟨ao, cap, rfl, hc, hm, fun hne => ?_⟩
  obtain ⟨b, off, rfl, hF, hb, hj⟩ := hx hne
  refine ⟨b, off, rfl, hF, Nat.lt_of_lt_of_le hb ha.1, fun j y hy => ?_⟩
  obtain ⟨us, h1, h2, h3⟩ := hj j y hy
  refine ⟨us, h1, hR.frame h2 ha, fun i u hu => ?_⟩
  rw [← h3 i u hu]
  simp only [World.cell?, ha.2 b hF hb]
theorem Sl.weak {α : Type} {size : Nat} {R : Rep α} (hR : R.Good) {F G : Nat → Prop} {w : World} {v : Value} {l : List α} (h : Sl size R F w v l) (hs : ∀ k, F k → k < w.heap.size → G k) : Sl size R G w v l := by
  obtain ⟨ao, cap, rfl, hc, hm, hx⟩ := h
  refine ⟨ao, cap, rfl, hc, hm, fun hne => ?_⟩
  obtain ⟨b, off, rfl, hF, hb, hj⟩ := hx hne
  refine ⟨b, off, rfl, hs b hF hb, hb, fun j y hy => ?_⟩
  obtain ⟨us, h1, h2, h3⟩ := hj j y hy
  exact ⟨us, h1, hR.weak h2 hs, h3⟩
theorem Sl.nil {α : Type} (size : Nat) (R : Rep α) (F : Nat → Prop) (w : World) : Sl size R F w (.slice none 0 0) [] := ⟨none, 0, rfl, ⟨Nat.le_refl _, fun _ => rfl⟩, Nat.zero_le _, fun h => absurd rfl h⟩
theorem Sl.slice {α : Type} {size : Nat} {R : Rep α} {F : Nat → Prop} {w : World} {v : Value} {l : List α} (h : Sl size R F w v l) : ∃ ao cap, v = .slice ao l.length cap ∧ l.length ≤ cap ∧ l.length ≤ 9223372036854775807 := by
  obtain ⟨ao, cap, rfl, hc, hm, _⟩ := h
  exact ⟨ao, cap, rfl, hc.1, hm⟩
theorem Sl.isNil {α : Type} {size : Nat} {R : Rep α} {F : Nat → Prop} {w : World} {n c : Nat} {l : List α} (h : Sl size R F w (.slice none n c) l) : l = [] ∧ c = 0 := by
  obtain ⟨ao, cap, he, hc, hm, hx⟩ := h
  injection he with e1 e2 e3
  subst e1 e3
  refine ⟨?_, hc.2 rfl⟩
  cases l with
  | nil => rfl
  | cons x l => have := hc.2 rfl; have := hc.1; simp at this; omega
theorem list_ne {α : Type} {l : List α} {k : Nat} (h : k < l.length) : l ≠ [] := by
  cases l with
  | nil => simp at h
  | cons _ _ => simp
theorem Sl.at {α : Type} {size : Nat} {R : Rep α} {F : Nat → Prop} {w : World} {a : Option Addr} {n c : Nat} {l : List α} (h : Sl size R F w (.slice a n c) l) {k : Nat} (hk : k < l.length) :
    ∃ b off us, a = some ⟨b, off, none⟩ ∧ F b ∧ us.length = size ∧ R F w us l[k] ∧ ∀ i u, us[i]? = some u → w.cell? ⟨b, off + k * size + i, none⟩ = some u := by
  obtain ⟨ao, cap, he, hc, hm, hx⟩ := h
  obtain ⟨b, off, rfl, hF, hb, hj⟩ := hx (list_ne hk)
  injection he with e1 e2 e3
  obtain ⟨us, h1, h2, h3⟩ := hj k l[k] (by simp [hk])
  exact ⟨b, off, us, e1, hF, h1, h2, h3⟩
/-- the block and the place are the same for all elements -/
theorem Sl.all {α : Type} {size : Nat} {R : Rep α} {F : Nat → Prop} {w : World} {a : Option Addr} {n c : Nat} {l : List α} (h : Sl size R F w (.slice a n c) l) (hl : 0 < l.length) :
    ∃ b off, a = some ⟨b, off, none⟩ ∧ F b ∧ ∀ k, (hk : k < l.length) → ∃ us, us.length = size ∧ R F w us l[k] ∧ ∀ i u, us[i]? = some u → w.cell? ⟨b, off + k * size + i, none⟩ = some u := by
  obtain ⟨ao, cap, he, hc, hm, hx⟩ := h
  obtain ⟨b, off, rfl, hF, hb, hj⟩ := hx (list_ne hl)
  injection he with e1 e2 e3
  refine ⟨b, off, e1, hF, fun k hk => ?_⟩
  obtain ⟨us, h1, h2, h3⟩ := hj k l[k] (by simp [hk])
  exact ⟨us, h1, h2, h3⟩
/-- the first so many of a slice -/
theorem Sl.take {α : Type} {size : Nat} {R : Rep α} {F : Nat → Prop} {w : World} {a : Option Addr} {n c : Nat} {l : List α} (h : Sl size R F w (.slice a n c) l) {k : Nat} (hk : k ≤ l.length) : Sl size R F w (.slice a k c) (l.take k) := by
  obtain ⟨ao, cap, he, hc, hm, hx⟩ := h
  injection he with e1 e2 e3
  subst e1 e3
  have hl : (l.take k).length = k := by rw [List.length_take]; omega
  refine ⟨_, _, by rw [hl], ⟨by omega, hc.2⟩, by omega, fun hne => ?_⟩
  obtain ⟨b, off, rfl, hF, hb, hj⟩ := hx (fun e => hne (by rw [e, List.take_nil]))
  refine ⟨b, off, rfl, hF, hb, fun j y hy => hj j y ?_⟩
  rw [List.getElem?_take] at hy
  split at hy
  · exact hy
  · cases hy
/-- a slice from a place on -/
theorem Sl.drop {α : Type} {size : Nat} {R : Rep α} {F : Nat → Prop} {w : World} {b off n c : Nat} {l : List α} (h : Sl size R F w (.slice (some ⟨b, off, none⟩) n c) l) {k : Nat} (hk : k ≤ l.length) : Sl size R F w (.slice (some ⟨b, off + k * size, none⟩) (n - k) (c - k)) (l.drop k) := by
  obtain ⟨ao, cap, he, hc, hm, hx⟩ := h
  injection he with e1 e2 e3
  subst e1 e2 e3
  have hl : (l.drop k).length = l.length - k := List.length_drop
  refine ⟨_, _, by rw [hl], ⟨by omega, fun h => by cases h⟩, by omega, fun hne => ?_⟩
  obtain ⟨b', off', e, hF, hb, hj⟩ := hx (fun e => hne (by rw [e, List.drop_nil]))
  injection e with e
  injection e with e1 e2
  subst e1 e2
  refine ⟨b, off + k * size, rfl, hF, hb, fun j y hy => ?_⟩
  rw [List.getElem?_drop] at hy
  obtain ⟨us, h1, h2, h3⟩ := hj (k + j) y hy
  refine ⟨us, h1, h2, fun i u hu => ?_⟩
  have := h3 i u hu
  rwa [show off + (k + j) * size + i = off + k * size + j * size + i from by rw [Nat.add_mul]; omega] at this
/-- a row that the call owns, as a slice of records -/
theorem Sl.own {α : Type} {size : Nat} {e : TypeId} {S : Nat} {w : World} {v : Value} {l : List α} {F : Nat → Prop} {R : Rep α} (row : α → List Value) (hrow : ∀ y, (row y).length = size) (h : w.ownsRow S e size v l.length (l.flatMap row)) (hR : ∀ y ∈ l, R F w (row y) y)
    (hF : ∀ g, v.ownBlock = some g → S ≤ g → g < w.heap.size → F g) : Sl size R F w v l := by
  rcases h.2 with ⟨rfl, h0⟩ | ⟨g, cap, cur, rfl, hb, hg, hn, hc, hs, ht⟩
  · obtain rfl : l = [] := List.eq_nil_of_length_eq_zero h0
    exact Sl.nil _ _ _ _
  · have hgl : g < w.heap.size := lt_of_block hg
    refine ⟨_, _, rfl, ⟨hn, fun h => by cases h⟩, by unfold maxLen at hc; omega, fun hne => ⟨g, 0, rfl, hF g (by simp [Value.ownBlock]) hb hgl, hgl, fun j y hj => ⟨row y, hrow y, hR y (List.mem_of_getElem? hj), fun i u hu => ?_⟩⟩⟩
    have hx : (l.flatMap row)[j * size + i]? = some u := by
      clear hs ht hn hR hne h hF
      induction l generalizing j with
      | nil => simp at hj
      | cons x l ih =>
        have hi : i < (row y).length := by
          rcases Nat.lt_or_ge i (row y).length with h | h
          · exact h
          · rw [List.getElem?_eq_none h] at hu; cases hu
        rw [hrow] at hi
        cases j with
        | zero =>
          simp at hj; subst hj
          rw [List.flatMap_cons, Nat.zero_mul, Nat.zero_add, List.getElem?_append_left (by rw [hrow]; exact hi)]; exact hu
        | succ j =>
          have hj' : l[j]? = some y := by simpa using hj
          have e : (j + 1) * size + i = (row x).length + (j * size + i) := by rw [hrow, Nat.succ_mul]; omega
          rw [List.flatMap_cons, e, List.getElem?_append_right (by omega), Nat.add_sub_cancel_left]
          exact ih j hj'
    have := h.cells (g := g) rfl (j * size + i) u hx
    have hadd : (⟨g, 0, none⟩ : Addr).add (j * size + i) = ⟨g, 0 + j * size + i, none⟩ := by unfold Addr.add; split <;> simp_all
    rwa [hadd] at this
theorem flat_len {β : Type} {size : Nat} (f : β → List Value) (hf : ∀ y, (f y).length = size) : ∀ l : List β, (l.flatMap f).length = l.length * size
  | [] => by simp
  | x :: l => by rw [List.flatMap_cons, List.length_append, hf, flat_len f hf l, List.length_cons, Nat.succ_mul]; omega
theorem flat_get {β : Type} {size : Nat} (hs : 0 < size) (f : β → List Value) (hf : ∀ y, (f y).length = size) : ∀ (l : List β) (j : Nat) (u : Value), (l.flatMap f)[j]? = some u → ∃ y, l[j / size]? = some y ∧ (f y)[j % size]? = some u
  | [], j, u, h => by simp at h
  | x :: l, j, u, h => by
    rw [List.flatMap_cons] at h
    rcases Nat.lt_or_ge j size with hj | hj
    · rw [List.getElem?_append_left (by rw [hf]; exact hj)] at h
      exact ⟨x, by rw [Nat.div_eq_of_lt hj]; rfl, by rw [Nat.mod_eq_of_lt hj]; exact h⟩
    · rw [List.getElem?_append_right (by rw [hf]; exact hj), hf] at h
      obtain ⟨y, h1, h2⟩ := flat_get hs f hf l (j - size) u h
      refine ⟨y, ?_, ?_⟩
      · have : j / size = (j - size) / size + 1 := Nat.div_eq_sub_div hs hj
        rw [this, List.getElem?_cons_succ]; exact h1
      · rw [Nat.mod_eq_sub_mod hj]; exact h2
/-- a slice of plain records, as the source of an append -/
theorem src_sl {P : Program} {α : Type} {size : Nat} {F : Nat → Prop} {w : World} {e' tx : TypeId} {ao : Option Addr} {cap : Nat} {l : List α} (row : α → List Value) (hk : P.underlying tx = some (.slice e')) (hs : 0 < size) (hrow : ∀ y, (row y).length = size) (h1 : ∀ y, ∀ u ∈ row y, u.oneCell' = true) (h : Sl size (Plain row) F w (.slice ao l.length cap) l) :
    Src P size tx (.slice ao l.length cap) l.length (l.flatMap row) w := by
  cases ao with
  | none =>
    obtain ⟨rfl, rfl⟩ := h.isNil
    exact Src.ofNil w hk 0
  | some a =>
    rcases Nat.eq_zero_or_pos l.length with h0 | h0
    · have : l = [] := List.eq_nil_of_length_eq_zero h0
      subst this
      exact Src.ofSlice w hk _ _ _ _ (by simp) (fun j u hj => by simp at hj) (fun u hu => by simp at hu)
    · obtain ⟨b, off, e, _, hj⟩ := h.all h0
      injection e with e
      subst e
      refine Src.ofSlice w hk _ _ _ _ (flat_len row hrow l) (fun j u hu => ?_) (fun u hu => ?_)
      · obtain ⟨y, h2, h3⟩ := flat_get hs row hrow l j u hu
        have hlt : j / size < l.length := (List.getElem?_eq_some_iff.1 h2).1
        obtain ⟨us, _, hR, hc⟩ := hj (j / size) hlt
        have hy : l[j / size] = y := (List.getElem?_eq_some_iff.1 h2).2
        have hR' : us = row y := by rw [← hy]; exact hR
        have := hc (j % size) u (by rw [hR']; exact h3)
        have hadd : (⟨b, off, none⟩ : Addr).add j = ⟨b, off + j / size * size + j % size, none⟩ := by
          have e : off + j = off + j / size * size + j % size := by have := Nat.div_add_mod j size; rw [Nat.mul_comm] at this; omega
          unfold Addr.add; split <;> simp_all
        rw [hadd]; exact this
      · obtain ⟨y, _, hy⟩ := List.mem_flatMap.1 hu
        exact h1 y u hy
/-- an empty block that was just laid is an own row -/
theorem own_empty (w : World) (e : TypeId) (size : Nat) : (w.alloc (.cells #[] e)).ownsRow w.heap.size e size (.slice (some ⟨w.heap.size, 0, none⟩) 0 0) 0 [] :=
  ⟨by simp, Or.inr ⟨w.heap.size, 0, #[], rfl, Nat.le_refl _, hp_at _ _ rfl, Nat.le_refl _, by decide, by simp, by simp⟩⟩
/-- the first so many of a row that the call owns -/
theorem own_take {w : World} {base : Nat} {e : TypeId} {size n k : Nat} {a : Option Addr} {c : Nat} {xs : List Value} (h : w.ownsRow base e size (.slice a n c) n xs) (hk : k ≤ n) : w.ownsRow base e size (.slice a k c) k (xs.take (k * size)) := by
  have hl := h.1
  have hkl : k * size ≤ n * size := Nat.mul_le_mul_right _ hk
  refine ⟨by rw [List.length_take]; omega, ?_⟩
  rcases h.2 with ⟨hv, h0⟩ | ⟨g, cap, cur, hv, hb, hg, hn, hc, hs, ht⟩
  · injection hv with e1 e2 e3
    subst e1 e3
    exact Or.inl ⟨by rw [show k = 0 from by omega], by omega⟩
  · injection hv with e1 e2 e3
    subst e1 e3
    refine Or.inr ⟨g, _, cur, rfl, hb, hg, by omega, hc, hs, ?_⟩
    rw [← ht, List.take_take, Nat.min_eq_left hkl]
end Go.Proofs.YtnmlkoidmacinaaDoor.Mm
