/-
  Lists of pairs: may such be? both ways.
-/
import Derived.Test.YtkcllpbbjlbfaaaEq
import Derived.Test.YtkcllpbbjlbfaaaCg
import Derived.Deep.DeepCutAuto
import Derived.Deep.QuietTactic
import Derived.BigQuiet
namespace Go.Proofs.Ytkcllpbbjlbfaaa
open Go.RowKit Wm Mm
set_option linter.unusedVariables false

theorem in_eq (n low high : Int) (w : World) : Calls Try.prog 40 #[.int .i64 n, .int .i64 low, .int .i64 high] w fun e w' => e = .returned (.bool (inB n low high)) ∧ w' = w := (in_any n low high w).mono fun _ _ h => ⟨h.1, h.2.symm⟩
/-- v is a slice of records of so many cells -/
def RecsP {α : Type} (size : Nat) (R : World → List Value → α → Prop) (w : World) (v : Value) (l : List α) : Prop :=
  ∃ ao cap, v = .slice ao l.length cap ∧ (l ≠ [] → ∃ b off, ao = some ⟨b, off, none⟩ ∧ ∀ j x, l[j]? = some x → ∃ vs : List Value, vs.length = size ∧ R w vs x ∧ ∀ i u, vs[i]? = some u → w.cell? ⟨b, off + j * size + i, none⟩ = some u) ∧ l.length ≤ 9223372036854775807
theorem RecsP.mono {α : Type} {size : Nat} {R : World → List Value → α → Prop} {w w' : World} {v : Value} {l : List α} (hR : ∀ vs x, R w vs x → R w' vs x) (h : RecsP size R w v l) (hb : Below w.heap.size w w') : RecsP size R w' v l := by
  obtain ⟨ao, cap, rfl, hc, hm⟩ := h
  refine ⟨ao, cap, rfl, fun hne => ?_, hm⟩
  obtain ⟨b, off, rfl, hj⟩ := hc hne
  refine ⟨b, off, rfl, fun j x hx => ?_⟩
  obtain ⟨vs, h1, h2, h3⟩ := hj j x hx
  refine ⟨vs, h1, hR _ _ h2, fun i u hu => ?_⟩
  have h4 := h3 i u hu
  rw [hb.cell (p := ⟨b, off + j * size + i, none⟩) (World.block_lt_of_cell? _ _ h4)]
  exact h4
theorem RecsP.slice {α : Type} {size : Nat} {R : World → List Value → α → Prop} {w : World} {v : Value} {l : List α} (h : RecsP size R w v l) : ∃ ao cap, v = .slice ao l.length cap ∧ l.length ≤ 9223372036854775807 := by
  obtain ⟨ao, cap, rfl, _, hm⟩ := h
  exact ⟨ao, cap, rfl, hm⟩

structure PairP where
  key : List UInt8
  val : List UInt8
  ver : Int
abbrev rowPair (p : PairP) : List Value := [str p.key, str p.val, .int .i64 p.ver]
abbrev Pairs (w : World) (v : Value) (l : List PairP) : Prop := RecsP 3 (fun _ vs p => vs = rowPair p) w v l
theorem Pairs.mono {w w' : World} {v : Value} {l : List PairP} (h : Pairs w v l) (hb : Below w.heap.size w w') : Pairs w' v l := RecsP.mono (fun _ _ h => h) h hb
theorem pairs_ne {α : Type} {l : List α} {k : Nat} (h : k < l.length) : l ≠ [] := by
  cases l with
  | nil => simp at h
  | cons _ _ => simp
theorem Pairs.at {w : World} {a : Option Addr} {n c : Nat} {l : List PairP} (h : Pairs w (.slice a n c) l) {k : Nat} (hk : k < l.length) : ∃ b off, a = some ⟨b, off, none⟩ ∧ w.cell? ⟨b, off + k * 3, none⟩ = some (str l[k].key) ∧ w.cell? ⟨b, off + k * 3 + 1, none⟩ = some (str l[k].val) ∧ w.cell? ⟨b, off + k * 3 + 2, none⟩ = some (.int .i64 l[k].ver) := by
  obtain ⟨ao, cap, he, h1, h2⟩ := h
  obtain ⟨b, off, rfl, h3⟩ := h1 (pairs_ne hk)
  injection he with e1 e2 e3
  obtain ⟨vs, _, rfl, h4⟩ := h3 k l[k] (by simp [hk])
  exact ⟨b, off, e1, h4 0 _ rfl, h4 1 _ rfl, h4 2 _ rfl⟩

/-- is a text not ahead of another? -/
def strGe (a b : List UInt8) : Bool := !(Op.bytesLess a b)
def keyPrev (l : List PairP) : Nat → List UInt8 → Bool
  | 0, _ => true
  | j + 1, x => match l[j]? with | none => true | some y => !(strGe y.key x)
def okPair (l : List PairP) (i : Nat) (p : PairP) : Bool := !(p.key == []) && (decide (p.key.length ≤ 16) && (decide (p.val.length ≤ 64) && (inB p.ver 1 1099511627775 && keyPrev l i p.key)))
def pairsB (l : List PairP) : Bool := (List.range l.length).all (fun i => match l[i]? with | none => true | some p => okPair l i p) && decide (l.length ≤ 32)

theorem pairsB_no {l : List PairP} {k : Nat} (hk : k < l.length) (h : okPair l k l[k] = false) : pairsB l = false := by
  have : (List.range l.length).all (fun i => match l[i]? with | none => true | some p => okPair l i p) = false := by
    rw [List.all_eq_false]
    exact ⟨k, List.mem_range.2 hk, by rw [List.getElem?_eq_getElem hk]; simp [h]⟩
  rw [pairsB, this]; rfl
theorem pairsB_all {l : List PairP} (h : ∀ i p, i < l.length → l[i]? = some p → okPair l i p = true) : (List.range l.length).all (fun i => match l[i]? with | none => true | some p => okPair l i p) = true := by
  rw [List.all_eq_true]
  intro i hi
  have hl := List.mem_range.1 hi
  rw [List.getElem?_eq_getElem hl]
  exact h i _ hl (by simp [hl])

end Go.Proofs.Ytkcllpbbjlbfaaa
