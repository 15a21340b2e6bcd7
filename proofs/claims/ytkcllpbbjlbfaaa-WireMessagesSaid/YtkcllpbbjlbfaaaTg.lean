/-
  Reading results, the panicking reader's way. Rows of records in memory that was laid later than a point; tables of such.
-/
import Derived.Test.YtkcllpbbjlbfaaaEr
import Derived.Test.YtkcllpbbjlbfaaaTt
import Derived.Deep.AppendLies
import Derived.Deep.RegionLaw
namespace Go.Proofs.Ytkcllpbbjlbfaaa
open Go.RowKit Wm Mm
set_option linter.unusedVariables false

theorem info_str : (Try.prog.info? 9).map (fun i => (i.zero, i.size, i.bytes)) = some (some (.string ByteArray.empty), 1, 16) := by kernel_rfl
def rdStrs : Nat → List (List UInt8) → List UInt8 → Res (List (List UInt8))
  | 0, acc, s => .ok (acc, s)
  | k + 1, acc, s =>
    match rdText 16 s with
    | .error z => .error z
    | .ok (x, t) => rdStrs k (acc ++ [x]) t
structure ResP where
  kind : Nat
  val : List UInt8
  ver : Nat
  keys : List (List UInt8)
def rdRes (s : List UInt8) : Res ResP :=
  match rdNum s with
  | .error z => .error z
  | .ok (k, s1) => match rdText 64 s1 with
    | .error z => .error z
    | .ok (v, s2) => match rdNum s2 with
      | .error z => .error z
      | .ok (n, s3) => match rdUpTo 32 s3 with
        | .error z => .error z
        | .ok (m, s4) => match rdStrs m [] s4 with
          | .error z => .error z
          | .ok (l, s5) => .ok (⟨k, v, n, l⟩, s5)
/-- v is a slice of these texts, in a block from S on -/
def StrsF (S : Nat) (w : World) (v : Value) (l : List (List UInt8)) : Prop := w.ownsRow S 9 1 v l.length (l.map str)
def GetsRes (S b : Nat) (w : World) (res : Res ResP) (e : Ending) (w' : World) : Prop :=
  match res with
  | .ok (q, t) => ∃ kv, e = .returned (vRes q.kind q.val q.ver kv) ∧ StrsF S w' kv q.keys ∧ Rd w' b t ∧ w.grownBy w' (some b)
  | .error z => e = stopped z ∧ w.grownBy w' (some b)

abbrev resZero : Array Value := #[.int .i64 0, str [], .int .i64 0, .slice none 0 0]
theorem grown_drew {w w' : World} {row : Option Nat} (h : w.grownBy w' row) : w.grownBy w'.drew row := ⟨h.os, h.tape, h.output, h.size, h.block⟩
end Go.Proofs.Ytkcllpbbjlbfaaa

namespace Go.Proofs.Ytkcllpbbjlbfaaa
open Go.RowKit Wm Mm
set_option linter.unusedVariables false

/-- blocks from S on, but for x, are as they were -/
def UpX (S : Nat) (x : Option Nat) (w w' : World) : Prop := ∀ k, S ≤ k → k < w.heap.size → some k ≠ x → w'.heap[k]? = w.heap[k]?
theorem UpX.of {S : Nat} {w w' : World} (h : Up S w w') (x : Option Nat) : UpX S x w w' := fun k h1 h2 _ => h k h1 h2
theorem UpX.trans {S : Nat} {x : Option Nat} {a b c : World} (h : UpX S x a b) (k : UpX S x b c) (hs : a.heap.size ≤ b.heap.size) : UpX S x a c := fun i h1 h2 h3 => (k i h1 (by omega) h3).trans (h i h1 h2 h3)
theorem UpX.ofGrown {S : Nat} {x : Option Nat} {w w' : World} (h : w.grownBy w' x) : UpX S x w w' := fun k _ h2 h3 => h.block k h2 h3

/-- v is a slice of records of so many cells, in a block from S on that is not x -/
def RecsF {α : Type} (S : Nat) (x : Option Nat) (size : Nat) (R : World → List Value → α → Prop) (w : World) (v : Value) (l : List α) : Prop :=
  ∃ ao cap, v = .slice ao l.length cap ∧ (l ≠ [] → ∃ b off, ao = some ⟨b, off, none⟩ ∧ S ≤ b ∧ b < w.heap.size ∧ some b ≠ x ∧ ∀ j y, l[j]? = some y → ∃ vs : List Value, vs.length = size ∧ R w vs y ∧ ∀ i u, vs[i]? = some u → w.cell? ⟨b, off + j * size + i, none⟩ = some u) ∧ l.length ≤ 9223372036854775807
theorem RecsF.recs {α : Type} {S size : Nat} {x : Option Nat} {R R' : World → List Value → α → Prop} {w : World} {v : Value} {l : List α} (hR : ∀ vs y, R w vs y → R' w vs y) (h : RecsF S x size R w v l) : RecsP size R' w v l := by
  obtain ⟨ao, cap, rfl, hc, hm⟩ := h
  refine ⟨ao, cap, rfl, fun hne => ?_, hm⟩
  obtain ⟨b, off, rfl, _, _, _, hj⟩ := hc hne
  refine ⟨b, off, rfl, fun j y hy => ?_⟩
  obtain ⟨vs, h1, h2, h3⟩ := hj j y hy
  exact ⟨vs, h1, hR _ _ h2, h3⟩
theorem RecsF.upx {α : Type} {S S' size : Nat} {x x' z : Option Nat} {R R' : World → List Value → α → Prop} {w w' : World} {v : Value} {l : List α} (h : RecsF S x size R w v l) (hR : ∀ vs y, R w vs y → R' w' vs y) (hu : UpX S' x' w w') (hs : S' ≤ S)
    (hx : ∀ b, S ≤ b → b < w.heap.size → some b ≠ x → some b ≠ x' ∧ some b ≠ z) : RecsF S z size R' w' v l := by
  obtain ⟨ao, cap, rfl, hc, hm⟩ := h
  refine ⟨ao, cap, rfl, fun hne => ?_, hm⟩
  obtain ⟨b, off, rfl, hb, hl, hbx, hj⟩ := hc hne
  obtain ⟨hx1, hx2⟩ := hx b hb hl hbx
  have e1 := hu b (by omega) hl hx1
  have hl' : b < w'.heap.size := by
    rcases Nat.lt_or_ge b w'.heap.size with h | h
    · exact h
    · rw [Array.getElem?_eq_none h, Array.getElem?_eq_getElem hl] at e1; cases e1
  refine ⟨b, off, rfl, hb, hl', hx2, fun j y hy => ?_⟩
  obtain ⟨vs, h1, h2, h3⟩ := hj j y hy
  refine ⟨vs, h1, hR _ _ h2, fun i u hu => ?_⟩
  rw [← h3 i u hu]
  simp only [World.cell?, e1]
theorem RecsF.base {α : Type} {S S' size : Nat} {x : Option Nat} {R R' : World → List Value → α → Prop} {w : World} {v : Value} {l : List α} (h : RecsF S x size R w v l) (hR : ∀ vs y, R w vs y → R' w vs y) (hs : S' ≤ S) : RecsF S' x size R' w v l := by
  obtain ⟨ao, cap, rfl, hc, hm⟩ := h
  refine ⟨ao, cap, rfl, fun hne => ?_, hm⟩
  obtain ⟨b, off, rfl, hb, hl, hbx, hj⟩ := hc hne
  refine ⟨b, off, rfl, by omega, hl, hbx, fun j y hy => ?_⟩
  obtain ⟨vs, h1, h2, h3⟩ := hj j y hy
  exact ⟨vs, h1, hR _ _ h2, h3⟩
theorem RecsF.nil {α : Type} (S size : Nat) (x : Option Nat) (R : World → List Value → α → Prop) (w : World) : RecsF S x size R w (.slice none 0 0) [] := ⟨none, 0, rfl, fun h => absurd rfl h, Nat.zero_le _⟩
theorem RecsF.slice {α : Type} {S size : Nat} {x : Option Nat} {R : World → List Value → α → Prop} {w : World} {v : Value} {l : List α} (h : RecsF S x size R w v l) : ∃ ao cap, v = .slice ao l.length cap := by
  obtain ⟨ao, cap, rfl, _, _⟩ := h
  exact ⟨ao, cap, rfl⟩
theorem flat_at {β : Type} {size : Nat} (f : β → List Value) (hf : ∀ y, (f y).length = size) : ∀ (l : List β) (j : Nat) (y : β) (i : Nat) (u : Value), l[j]? = some y → (f y)[i]? = some u → (l.flatMap f)[j * size + i]? = some u
  | [], j, y, i, u, h, _ => by simp at h
  | x :: l, 0, y, i, u, h, hu => by
    simp at h; subst h
    have hi : i < (f x).length := by
      rcases Nat.lt_or_ge i (f x).length with h | h
      · exact h
      · rw [List.getElem?_eq_none h] at hu; cases hu
    rw [List.flatMap_cons, Nat.zero_mul, Nat.zero_add, List.getElem?_append_left hi]; exact hu
  | x :: l, j + 1, y, i, u, h, hu => by
    have h' : l[j]? = some y := by simpa using h
    have e : (j + 1) * size + i = (f x).length + (j * size + i) := by rw [hf, Nat.succ_mul]; omega
    rw [List.flatMap_cons, e, List.getElem?_append_right (by omega), Nat.add_sub_cancel_left]
    exact flat_at f hf l j y i u h' hu
theorem RecsF.of_own {α β : Type} {S size : Nat} {e : TypeId} {w : World} {v : Value} (x : Option Nat) (R : World → List Value → α → Prop) (q : List β) (f : β → α) (row : β → List Value) (hrow : ∀ p, (row p).length = size)
    (h : w.ownsRow S e size v q.length (q.flatMap row)) (hR : ∀ p ∈ q, R w (row p) (f p)) (hx : ∀ g, v.ownBlock = some g → some g ≠ x) : RecsF S x size R w v (q.map f) := by
  rcases h.2 with ⟨rfl, h0⟩ | ⟨g, cap, cur, rfl, hb, hg, hn, hc, hs, ht⟩
  · obtain rfl : q = [] := List.eq_nil_of_length_eq_zero h0
    exact RecsF.nil _ _ _ _ _
  · refine ⟨_, _, by rw [List.length_map], fun hne => ⟨g, 0, rfl, hb, lt_of_block hg, hx g (by simp [Value.ownBlock]), fun j y hj => ?_⟩, by rw [List.length_map]; exact Nat.le_trans hn hc⟩
    rw [List.getElem?_map] at hj
    cases hq : q[j]? with
    | none => rw [hq] at hj; cases hj
    | some p =>
      rw [hq] at hj
      simp at hj; subst hj
      refine ⟨row p, hrow p, hR p (List.mem_of_getElem? hq), fun i u hu => ?_⟩
      have := h.cells (g := g) rfl (j * size + i) u (flat_at row hrow q j p i u hq hu)
      have hadd : (⟨g, 0, none⟩ : Addr).add (j * size + i) = ⟨g, 0 + j * size + i, none⟩ := by unfold Addr.add; split <;> simp_all
      rwa [hadd] at this

abbrev StrF (S : Nat) (x : Option Nat) (w : World) (v : Value) (l : List (List UInt8)) : Prop := RecsF S x 1 (fun _ vs s => vs = [str s]) w v l
theorem StrF.strs {S : Nat} {x : Option Nat} {w : World} {v : Value} {l : List (List UInt8)} (h : StrF S x w v l) : Strs w v l := by
  obtain ⟨ao, cap, rfl, hc, hm⟩ := h
  refine ⟨ao, cap, rfl, fun hne => ?_, hm⟩
  obtain ⟨b, off, rfl, _, _, _, hj⟩ := hc hne
  refine ⟨b, off, rfl, fun j y hy => ?_⟩
  obtain ⟨vs, h1, rfl, h3⟩ := hj j y hy
  have := h3 0 _ rfl
  simpa using this
theorem flat_str : ∀ l : List (List UInt8), l.flatMap (fun s => [str s]) = l.map str
  | [] => rfl
  | x :: l => by rw [List.flatMap_cons, flat_str l]; rfl
theorem StrF.of_own {S : Nat} {e : TypeId} {w : World} {v : Value} {l : List (List UInt8)} (x : Option Nat) (h : w.ownsRow S e 1 v l.length (l.map str)) (hx : ∀ g, v.ownBlock = some g → some g ≠ x) : StrF S x w v l := by
  have := RecsF.of_own (size := 1) (e := e) x (fun _ vs s => vs = [str s]) l id (fun s => [str s]) (fun _ => rfl) (by rw [flat_str]; exact h) (fun _ _ => rfl) hx
  rwa [List.map_id] at this
abbrev PairF (S : Nat) (x : Option Nat) (w : World) (v : Value) (l : List PairP) : Prop := RecsF S x 3 (fun _ vs p => vs = rowPair p) w v l
theorem PairF.of_own {S : Nat} {e : TypeId} {w : World} {v : Value} {l : List PairP} (x : Option Nat) (h : w.ownsRow S e 3 v l.length (l.flatMap rowPair)) (hx : ∀ g, v.ownBlock = some g → some g ≠ x) : PairF S x w v l := by
  have := RecsF.of_own (size := 3) (e := e) x (fun _ vs p => vs = rowPair p) l id rowPair (fun _ => rfl) h (fun _ _ => rfl) hx
  rwa [List.map_id] at this
abbrev SessF (S : Nat) (x : Option Nat) (w : World) (v : Value) (l : List SessP) : Prop := RecsF S x 7 (fun w vs s => ∃ kv, vs = rowSess s kv ∧ StrF S x w kv s.keys) w v l

/-- two slices in blocks from S on are this table -/
structure TabF (S : Nat) (w : World) (vp vs : Value) (t : Tab) : Prop where
  p : PairF S none w vp t.pairs
  s : SessF S none w vs t.sess
theorem TabF.table2 {S : Nat} {w : World} {vp vs : Value} {t : Tab} (h : TabF S w vp vs t) : Table2 w vp vs t :=
  ⟨h.p.recs (fun _ _ h => h), h.s.recs (fun _ _ ⟨kv, h1, h2⟩ => ⟨kv, h1, h2.strs⟩)⟩
theorem TabF.up {S S' : Nat} {w w' : World} {vp vs : Value} {t : Tab} (h : TabF S w vp vs t) (hu : Up S' w w') (hs : S' ≤ S) : TabF S w' vp vs t :=
  ⟨h.p.upx (fun _ _ h => h) (UpX.of hu none) hs (fun _ _ _ _ => ⟨by simp, by simp⟩),
   h.s.upx (fun _ _ ⟨kv, h1, h2⟩ => ⟨kv, h1, h2.upx (fun _ _ h => h) (UpX.of hu none) hs (fun _ _ _ _ => ⟨by simp, by simp⟩)⟩) (UpX.of hu none) hs (fun _ _ _ _ => ⟨by simp, by simp⟩)⟩
theorem TabF.base {S S' : Nat} {w : World} {vp vs : Value} {t : Tab} (h : TabF S w vp vs t) (hs : S' ≤ S) : TabF S' w vp vs t :=
  ⟨RecsF.base h.p (fun _ _ h => h) hs, RecsF.base h.s (fun _ _ ⟨kv, h1, h2⟩ => ⟨kv, h1, RecsF.base h2 (fun _ _ h => h) hs⟩) hs⟩
theorem TabF.nil (S : Nat) (w : World) (tm : Int) : TabF S w (.slice none 0 0) (.slice none 0 0) ⟨[], [], tm⟩ := ⟨RecsF.nil _ _ _ _ _, RecsF.nil _ _ _ _ _⟩

end Go.Proofs.Ytkcllpbbjlbfaaa
