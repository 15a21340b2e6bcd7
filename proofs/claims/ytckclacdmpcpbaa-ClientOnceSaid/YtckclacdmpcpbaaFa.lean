/-
  Families of rows of one's own, apart from one another. No program in sight.
-/
import Derived.Test.YtckclacdmpcpbaaFo
namespace Go.Proofs.Ytckclacdmpcpbaa.Mm
open Go.RowKit
set_option linter.unusedVariables false

def upd {α : Type} (f : Nat → α) (k : Nat) (v : α) : Nat → α := fun i => if i = k then v else f i
theorem upd_same {α : Type} (f : Nat → α) (k : Nat) (v : α) : upd f k v k = v := by simp [upd]
theorem upd_ne {α : Type} (f : Nat → α) {k i : Nat} (v : α) (h : i ≠ k) : upd f k v i = f i := by simp [upd, h]
theorem upd_self {α : Type} (f : Nat → α) (k : Nat) : upd f k (f k) = f := by funext i; unfold upd; split <;> simp_all
theorem upd_twice {α : Type} (f : Nat → α) (k : Nat) (a b : α) : upd (upd f k a) k b = upd f k b := by funext i; unfold upd; split <;> rfl

/-- n rows, each of one's own, in blocks of F, no two in one block -/
structure Fam {α : Type} (e : TypeId) (size : Nat) (row : α → List Value) (n : Nat) (F : Nat → Prop) (w : World) (vs : Nat → Value) (ls : Nat → List α) : Prop where
  own : ∀ k, k < n → w.ownsRow 0 e size (vs k) (ls k).length ((ls k).flatMap row)
  foot : ∀ k, k < n → ∀ g, (vs k).ownBlock = some g → F g
  apart : ∀ i j, i < n → j < n → i ≠ j → ∀ g, (vs i).ownBlock = some g → (vs j).ownBlock ≠ some g
section
variable {α : Type} {e : TypeId} {size : Nat} {row : α → List Value} {n : Nat} {F : Nat → Prop} {w w' : World} {vs : Nat → Value} {ls : Nat → List α}
theorem Fam.agree (h : Fam e size row n F w vs ls) (ha : Agree F w w') : Fam e size row n F w' vs ls :=
  ⟨fun k hk => own_agree (h.own k hk) ha (h.foot k hk), h.foot, h.apart⟩
theorem Fam.chg {G : Nat → Prop} (h : Fam e size row n F w vs ls) (hc : Chg G w w') (hd : ∀ g, F g → ¬ G g) : Fam e size row n F w' vs ls := h.agree (hc.agree hd)
theorem Fam.weak {G : Nat → Prop} (h : Fam e size row n F w vs ls) (hs : ∀ g, g < w.heap.size → F g → G g) : Fam e size row n G w vs ls :=
  ⟨h.own, fun k hk g hg => hs g ((h.own k hk).lt g hg).2 (h.foot k hk g hg), h.apart⟩
theorem Fam.lt (h : Fam e size row n F w vs ls) {k g : Nat} (hk : k < n) (hg : (vs k).ownBlock = some g) : g < w.heap.size := ((h.own k hk).lt g hg).2
/-- one of them is another one, in its own block or behind all -/
theorem Fam.put (h : Fam e size row n F w vs ls) {k : Nat} (hk : k < n) {v : Value} {l : List α} (hg : w.grownBy w' (vs k).ownBlock) (ho : w'.ownsRow 0 e size v l.length (l.flatMap row)) (hv : ∀ g, v.ownBlock = some g → (vs k).ownBlock = some g ∨ w.heap.size ≤ g) :
    Fam e size row n (fun g => F g ∨ w.heap.size ≤ g) w' (upd vs k v) (upd ls k l) := by
  have hne : ∀ j, j < n → j ≠ k → (vs j).ownBlock = none ∨ (vs j).ownBlock ≠ (vs k).ownBlock := fun j hj hjk => by
    rcases hb : (vs j).ownBlock with _ | g
    · exact Or.inl rfl
    · exact Or.inr (fun e => h.apart j k hj hk hjk g hb e.symm)
  refine ⟨fun j hj => ?_, fun j hj g hgb => ?_, fun i j hi hj hij g hi2 hj2 => ?_⟩
  · by_cases hjk : j = k
    · subst hjk; rw [upd_same, upd_same]; exact ho
    · rw [upd_ne _ _ hjk, upd_ne _ _ hjk]; exact (h.own j hj).kept hg (hne j hj hjk)
  · by_cases hjk : j = k
    · subst hjk
      rw [upd_same] at hgb
      exact (hv g hgb).imp (fun e => h.foot j hj g e) id
    · rw [upd_ne _ _ hjk] at hgb; exact Or.inl (h.foot j hj g hgb)
  · by_cases hik : i = k
    · subst hik
      rw [upd_same] at hi2
      rw [upd_ne _ _ (Ne.symm hij)] at hj2
      rcases hv g hi2 with h1 | h1
      · exact h.apart i j hi hj hij g h1 hj2
      · have := h.lt hj hj2; omega
    · rw [upd_ne _ _ hik] at hi2
      by_cases hjk : j = k
      · subst hjk
        rw [upd_same] at hj2
        rcases hv g hj2 with h1 | h1
        · exact h.apart i j hi hj hij g hi2 h1
        · have := h.lt hi hi2; omega
      · rw [upd_ne _ _ hjk] at hj2
        exact h.apart i j hi hj hij g hi2 hj2
theorem Fam.setOther (h : Fam e size row n F w vs ls) {a : Addr} (hne : ∀ k, k < n → (vs k).ownBlock ≠ some a.block) (v : Value) : Fam e size row n F (w.setCell a v) vs ls :=
  ⟨fun k hk => (h.own k hk).kept (grown_setCell w a v) (Or.inr (hne k hk)), h.foot, h.apart⟩
theorem Fam.nil (e : TypeId) (size : Nat) (row : α → List Value) (n : Nat) (F : Nat → Prop) (w : World) : Fam e size row n F w (fun _ => .slice none 0 0) (fun _ => []) :=
  ⟨fun k _ => World.ownsRow_nil _ _ _ _, fun k _ g hg => by simp [Value.ownBlock] at hg, fun i j _ _ _ g hg => by simp [Value.ownBlock] at hg⟩
/-- one of them, to be read -/
theorem Fam.sl (h : Fam e size row n F w vs ls) (hrow : ∀ y, (row y).length = size) {k : Nat} (hk : k < n) : Sl size (Plain row) F w (vs k) (ls k) :=
  Sl.own row hrow (h.own k hk) (fun _ _ => rfl) (fun g hg _ _ => h.foot k hk g hg)
end
end Go.Proofs.Ytckclacdmpcpbaa.Mm
