/-
  Rows of records in memory that was laid later than a point; tables of such.
-/
import Derived.Test.YtbonmeogmjfkeaaRt
import Derived.Test.YtbonmeogmjfkeaaTt
namespace Go.Proofs.Ytbonmeogmjfkeaa
open Go.RowKit Wm Mm
set_option linter.unusedVariables false

/-- blocks from S on, but for x, are as they were -/
def UpX (S : Nat) (x : Option Nat) (w w' : World) : Prop := ∀ k, S ≤ k → k < w.heap.size → some k ≠ x → w'.heap[k]? = w.heap[k]?
theorem UpX.of {S : Nat} {w w' : World} (h : Up S w w') (x : Option Nat) : UpX S x w w' := fun k h1 h2 _ => h k h1 h2
theorem UpX.trans {S : Nat} {x : Option Nat} {a b c : World} (h : UpX S x a b) (k : UpX S x b c) (hs : a.heap.size ≤ b.heap.size) : UpX S x a c := fun i h1 h2 h3 => (k i h1 (by omega) h3).trans (h i h1 h2 h3)
theorem UpX.ofGrown {S : Nat} {x : Option Nat} {w w' : World} (h : w.grownBy w' x) : UpX S x w w' := fun k _ h2 h3 => h.block k h2 h3

/-- v is a slice of records of so many cells, in a block from S on that is not x -/
def RecsF {α : Type} (S : Nat) (x : Option Nat) (size : Nat) (R : World → List Value → α → Prop) (w : World) (v : Value) (l : List α) : Prop :=
  ∃ ao cap, v = .slice ao l.length cap ∧ (l ≠ [] → ∃ b off, ao = some ⟨b, off, none⟩ ∧ S ≤ b ∧ b < w.heap.size ∧ some b ≠ x ∧ ∀ j y, l[j]? = some y → ∃ vs : List Value, vs.length = size ∧ R w vs y ∧ ∀ i u, vs[i]? = some u → w.cell? ⟨b, off + j * size + i, none⟩ = some u) ∧ l.length ≤ 9223372036854775807
theorem RecsF.recs {α : Type} {S size : Nat} {x : Option Nat} {R R' : World → List Value → α → Prop} {w : World} {v : Value} {l : List α} (hR : ∀ vs y, R w vs y → R' w vs y) (h : RecsF S x size R w v l) : RecsP size R' w v l := by
  obtain ⟨ao, cap, rfl, hc, hm⟩ := h
  refine ⟨ao, cap, rfl, fun hne => ?_, hm⟩
  obtain ⟨b, off, rfl, _, _, _, hj⟩ := hc hne
  refine ⟨b, off, rfl, fun j y hy => ?_⟩
  obtain ⟨vs, h1, h2, h3⟩ := hj j y hy
  exact ⟨vs, h1, hR _ _ h2, h3⟩
theorem RecsF.upx {α : Type} {S S' size : Nat} {x x' z : Option Nat} {R R' : World → List Value → α → Prop} {w w' : World} {v : Value} {l : List α} (h : RecsF S x size R w v l) (hR : ∀ vs y, R w vs y → R' w' vs y) (hu : UpX S' x' w w') (hs : S' ≤ S)
    (hx : ∀ b, S ≤ b → b < w.heap.size → some b ≠ x → some b ≠ x' ∧ some b ≠ z) : RecsF S z size R' w' v l := by
  obtain ⟨ao, cap, rfl, hc, hm⟩ := h
  refine ⟨ao, cap, rfl, fun hne => ?_, hm⟩
  obtain ⟨b, off, rfl, hb, hl, hbx, hj⟩ := hc hne
  obtain ⟨hx1, hx2⟩ := hx b hb hl hbx
  have e1 := hu b (by omega) hl hx1
  have hl' : b < w'.heap.size := by
    rcases Nat.lt_or_ge b w'.heap.size with h | h
    · exact h
    · rw [Array.getElem?_eq_none h, Array.getElem?_eq_getElem hl] at e1; cases e1
  refine ⟨b, off, rfl, hb, hl', hx2, fun j y hy => ?_⟩
  obtain ⟨vs, h1, h2, h3⟩ := hj j y hy
  refine ⟨vs, h1, hR _ _ h2, fun i u hu => ?_⟩
  rw [← h3 i u hu]
  simp only [World.cell?, e1]
theorem RecsF.base {α : Type} {S S' size : Nat} {x : Option Nat} {R R' : World → List Value → α → Prop} {w : World} {v : Value} {l : List α} (h : RecsF S x size R w v l) (hR : ∀ vs y, R w vs y → R' w vs y) (hs : S' ≤ S) : RecsF S' x size R' w v l := by
  obtain ⟨ao, cap, rfl, hc, hm⟩ := h
  refine ⟨ao, cap, rfl, fun hne => ?_, hm⟩
  obtain ⟨b, off, rfl, hb, hl, hbx, hj⟩ := hc hne
  refine ⟨b, off, rfl, by omega, hl, hbx, fun j y hy => ?_⟩
  obtain ⟨vs, h1, h2, h3⟩ := hj j y hy
  exact ⟨vs, h1, hR _ _ h2, h3⟩
theorem RecsF.nil {α : Type} (S size : Nat) (x : Option Nat) (R : World → List Value → α → Prop) (w : World) : RecsF S x size R w (.slice none 0 0) [] := ⟨none, 0, rfl, fun h => absurd rfl h, Nat.zero_le _⟩
theorem RecsF.slice {α : Type} {S size : Nat} {x : Option Nat} {R : World → List Value → α → Prop} {w : World} {v : Value} {l : List α} (h : RecsF S x size R w v l) : ∃ ao cap, v = .slice ao l.length cap := by
  obtain ⟨ao, cap, rfl, _, _⟩ := h
  exact ⟨ao, cap, rfl⟩
theorem flat_at {β : Type} {size : Nat} (f : β → List Value) (hf : ∀ y, (f y).length = size) : ∀ (l : List β) (j : Nat) (y : β) (i : Nat) (u : Value), l[j]? = some y → (f y)[i]? = some u → (l.flatMap f)[j * size + i]? = some u
  | [], j, y, i, u, h, _ => by simp at h
  | x :: l, 0, y, i, u, h, hu => by
    simp at h; subst h
    have hi : i < (f x).length := by
      rcases Nat.lt_or_ge i (f x).length with h | h
      · exact h
      · rw [List.getElem?_eq_none h] at hu; cases hu
    rw [List.flatMap_cons, Nat.zero_mul, Nat.zero_add, List.getElem?_append_left hi]; exact hu
  | x :: l, j + 1, y, i, u, h, hu => by
    have h' : l[j]? = some y := by simpa using h
    have e : (j + 1) * size + i = (f x).length + (j * size + i) := by rw [hf, Nat.succ_mul]; omega
    rw [List.flatMap_cons, e, List.getElem?_append_right (by omega), Nat.add_sub_cancel_left]
    exact flat_at f hf l j y i u h' hu
theorem RecsF.of_own {α β : Type} {S size : Nat} {e : TypeId} {w : World} {v : Value} (x : Option Nat) (R : World → List Value → α → Prop) (q : List β) (f : β → α) (row : β → List Value) (hrow : ∀ p, (row p).length = size)
    (h : w.ownsRow S e size v q.length (q.flatMap row)) (hR : ∀ p ∈ q, R w (row p) (f p)) (hx : ∀ g, v.ownBlock = some g → some g ≠ x) : RecsF S x size R w v (q.map f) := by
  rcases h.2 with ⟨rfl, h0⟩ | ⟨g, cap, cur, rfl, hb, hg, hn, hc, hs, ht⟩
  · obtain rfl : q = [] := List.eq_nil_of_length_eq_zero h0
    exact RecsF.nil _ _ _ _ _
  · refine ⟨_, _, by rw [List.length_map], fun hne => ⟨g, 0, rfl, hb, lt_of_block hg, hx g (by simp [Value.ownBlock]), fun j y hj => ?_⟩, by rw [List.length_map]; exact Nat.le_trans hn hc⟩
    rw [List.getElem?_map] at hj
    cases hq : q[j]? with
    | none => rw [hq] at hj; cases hj
    | some p =>
      rw [hq] at hj
      simp at hj; subst hj
      refine ⟨row p, hrow p, hR p (List.mem_of_getElem? hq), fun i u hu => ?_⟩
      have := h.cells (g := g) rfl (j * size + i) u (flat_at row hrow q j p i u hq hu)
      have hadd : (⟨g, 0, none⟩ : Addr).add (j * size + i) = ⟨g, 0 + j * size + i, none⟩ := by unfold Addr.add; split <;> simp_all
      rwa [hadd] at this

abbrev StrF (S : Nat) (x : Option Nat) (w : World) (v : Value) (l : List (List UInt8)) : Prop := RecsF S x 1 (fun _ vs s => vs = [str s]) w v l
theorem StrF.strs {S : Nat} {x : Option Nat} {w : World} {v : Value} {l : List (List UInt8)} (h : StrF S x w v l) : Strs w v l := by
  obtain ⟨ao, cap, rfl, hc, hm⟩ := h
  refine ⟨ao, cap, rfl, fun hne => ?_, hm⟩
  obtain ⟨b, off, rfl, _, _, _, hj⟩ := hc hne
  refine ⟨b, off, rfl, fun j y hy => ?_⟩
  obtain ⟨vs, h1, rfl, h3⟩ := hj j y hy
  have := h3 0 _ rfl
  simpa using this
theorem flat_str : ∀ l : List (List UInt8), l.flatMap (fun s => [str s]) = l.map str
  | [] => rfl
  | x :: l => by rw [List.flatMap_cons, flat_str l]; rfl
theorem StrF.of_own {S : Nat} {e : TypeId} {w : World} {v : Value} {l : List (List UInt8)} (x : Option Nat) (h : w.ownsRow S e 1 v l.length (l.map str)) (hx : ∀ g, v.ownBlock = some g → some g ≠ x) : StrF S x w v l := by
  have := RecsF.of_own (size := 1) (e := e) x (fun _ vs s => vs = [str s]) l id (fun s => [str s]) (fun _ => rfl) (by rw [flat_str]; exact h) (fun _ _ => rfl) hx
  rwa [List.map_id] at this
abbrev PairF (S : Nat) (x : Option Nat) (w : World) (v : Value) (l : List PairP) : Prop := RecsF S x 3 (fun _ vs p => vs = rowPair p) w v l
theorem PairF.of_own {S : Nat} {e : TypeId} {w : World} {v : Value} {l : List PairP} (x : Option Nat) (h : w.ownsRow S e 3 v l.length (l.flatMap rowPair)) (hx : ∀ g, v.ownBlock = some g → some g ≠ x) : PairF S x w v l := by
  have := RecsF.of_own (size := 3) (e := e) x (fun _ vs p => vs = rowPair p) l id rowPair (fun _ => rfl) h (fun _ _ => rfl) hx
  rwa [List.map_id] at this
abbrev SessF (S : Nat) (x : Option Nat) (w : World) (v : Value) (l : List SessP) : Prop := RecsF S x 7 (fun w vs s => ∃ kv, vs = rowSess s kv ∧ StrF S x w kv s.keys) w v l

/-- two slices in blocks from S on are this table -/
structure TabF (S : Nat) (w : World) (vp vs : Value) (t : Tab) : Prop where
  p : PairF S none w vp t.pairs
  s : SessF S none w vs t.sess
theorem TabF.table2 {S : Nat} {w : World} {vp vs : Value} {t : Tab} (h : TabF S w vp vs t) : Table2 w vp vs t :=
  ⟨h.p.recs (fun _ _ h => h), h.s.recs (fun _ _ ⟨kv, h1, h2⟩ => ⟨kv, h1, h2.strs⟩)⟩
theorem TabF.up {S S' : Nat} {w w' : World} {vp vs : Value} {t : Tab} (h : TabF S w vp vs t) (hu : Up S' w w') (hs : S' ≤ S) : TabF S w' vp vs t :=
  ⟨h.p.upx (fun _ _ h => h) (UpX.of hu none) hs (fun _ _ _ _ => ⟨by simp, by simp⟩),
   h.s.upx (fun _ _ ⟨kv, h1, h2⟩ => ⟨kv, h1, h2.upx (fun _ _ h => h) (UpX.of hu none) hs (fun _ _ _ _ => ⟨by simp, by simp⟩)⟩) (UpX.of hu none) hs (fun _ _ _ _ => ⟨by simp, by simp⟩)⟩
theorem TabF.base {S S' : Nat} {w : World} {vp vs : Value} {t : Tab} (h : TabF S w vp vs t) (hs : S' ≤ S) : TabF S' w vp vs t :=
  ⟨RecsF.base h.p (fun _ _ h => h) hs, RecsF.base h.s (fun _ _ ⟨kv, h1, h2⟩ => ⟨kv, h1, RecsF.base h2 (fun _ _ h => h) hs⟩) hs⟩
theorem TabF.nil (S : Nat) (w : World) (tm : Int) : TabF S w (.slice none 0 0) (.slice none 0 0) ⟨[], [], tm⟩ := ⟨RecsF.nil _ _ _ _ _, RecsF.nil _ _ _ _ _⟩

/-- an own row of sessions, whose keys lie in other blocks -/
def SessO (S : Nat) (w : World) (v : Value) (l : List SessP) : Prop :=
  ∃ q : List (SessP × Value), q.map (·.1) = l ∧ w.ownsRow S 192 7 v q.length (q.flatMap fun p => rowSess p.1 p.2) ∧ ∀ p ∈ q, StrF S v.ownBlock w p.2 p.1.keys
theorem SessO.nil (S : Nat) (w : World) : SessO S w (.slice none 0 0) [] := ⟨[], rfl, World.ownsRow_nil _ _ _ _, fun _ h => by cases h⟩
theorem SessO.sessF {S : Nat} {w : World} {v : Value} {l : List SessP} (h : SessO S w v l) : SessF S none w v l := by
  obtain ⟨q, rfl, h1, h2⟩ := h
  exact RecsF.of_own (size := 7) none _ q (·.1) (fun p => rowSess p.1 p.2) (fun _ => rfl) h1 (fun p hp => ⟨p.2, rfl, (h2 p hp).upx (fun _ _ h => h) (UpX.of (Up.refl S w) none) (Nat.le_refl _) (fun _ _ _ _ => ⟨by simp, by simp⟩)⟩) (fun _ _ => by simp)
/-- the same row, in a world in which the reader alone has moved -/
theorem SessO.up {S : Nat} {w w' : World} {v : Value} {l : List SessP} (h : SessO S w v l) (hu : Up S w w') : SessO S w' v l := by
  obtain ⟨q, rfl, h1, h2⟩ := h
  exact ⟨q, rfl, own_up h1 hu (Nat.le_refl _), fun p hp => (h2 p hp).upx (fun _ _ h => h) (UpX.of hu none) (Nat.le_refl _) (fun _ _ _ hx => ⟨by simp, hx⟩)⟩
/-- one more session: its row was appended -/
theorem SessO.push {S H : Nat} {w w2 : World} {v v' : Value} {l : List SessP} {q : List (SessP × Value)} {s : SessP} {kv : Value} (hq : q.map (·.1) = l) (hk : ∀ p ∈ q, StrF S v.ownBlock w p.2 p.1.keys) (hs : StrF S v.ownBlock w kv s.keys)
    (hu : UpX S v.ownBlock w w2) (hv : ∃ g, v'.ownBlock = some g ∧ (v.ownBlock = some g ∨ w.heap.size ≤ g)) (hown : w2.ownsRow S 192 7 v' (q.length + 1) ((q.flatMap fun p => rowSess p.1 p.2) ++ rowSess s kv)) : SessO S w2 v' (l ++ [s]) := by
  obtain ⟨g, hg, hc⟩ := hv
  have hx : ∀ b, S ≤ b → b < w.heap.size → some b ≠ v.ownBlock → some b ≠ v.ownBlock ∧ some b ≠ v'.ownBlock := fun b _ hl hb => ⟨hb, fun e => by
    rw [hg] at e
    rcases hc with h | h
    · exact hb (e.trans h.symm)
    · injection e with e; omega⟩
  refine ⟨q ++ [(s, kv)], by rw [List.map_append, hq]; rfl, ?_, fun p hp => ?_⟩
  · rw [List.flatMap_append]; simpa using hown
  · rcases List.mem_append.1 hp with h | h
    · exact (hk p h).upx (fun _ _ h => h) hu (Nat.le_refl _) hx
    · obtain rfl := List.mem_singleton.1 h
      exact hs.upx (fun _ _ h => h) hu (Nat.le_refl _) hx
end Go.Proofs.Ytbonmeogmjfkeaa
