/-
  A part of a log's row; a log in a box.
-/
import Derived.Test.YtlknkhmhdmpdkaaLc
import Derived.Test.YtlknkhmhdmpdkaaQb
namespace Go.Proofs.Ytlknkhmhdmpdkaa
open Go.RowKit Wm Mm Lg
set_option linter.unusedVariables false
set_option linter.unusedSimpArgs false

theorem ents_part {F : Nat → Prop} {w : World} {ao : Option Addr} {cap p n : Nat} {L : List EntP} (h : Ents F w (.slice ao L.length cap) L) (hp : p + n ≤ L.length) :
    ∃ av, Ents F w (.slice av n (cap - p)) ((L.drop p).take n) ∧ ((ao = none ∧ av = none ∧ L = [] ∧ cap = 0 ∧ p = 0 ∧ n = 0) ∨ ∃ a, ao = some a ∧ ((cap = p ∧ n = 0 ∧ av = some a) ∨ (cap ≠ p ∧ av = some (a.add (p * 4))))) := by
  have hdl : (L.drop p).length = L.length - p := List.length_drop
  have hnl : ((L.drop p).take n).length = n := by rw [List.length_take, hdl]; omega
  obtain ⟨_, _, he, hcap, hmax⟩ := h.slice
  injection he with e1 e2 e3
  subst e1
  subst e3
  have hemp : ∀ (av : Option Addr) (c : Nat), (av = none → c = 0) → n = 0 → Ents F w (.slice av n c) ((L.drop p).take n) := by
    intro av c hz hn
    subst hn
    exact ⟨av, c, by rw [hnl], ⟨by rw [hnl]; omega, fun h => hz h⟩, by rw [hnl]; omega, fun h => absurd rfl h⟩
  cases ao with
  | none =>
    obtain ⟨rfl, rfl⟩ := h.isNil
    have h0 : p = 0 := by simp at hp; omega
    have h1 : n = 0 := by simp at hp; omega
    exact ⟨none, hemp _ _ (fun _ => by omega) h1, Or.inl ⟨rfl, rfl, rfl, rfl, h0, h1⟩⟩
  | some a =>
    by_cases hcm : cap = p
    · have h1 : n = 0 := by omega
      exact ⟨some a, hemp _ _ (fun h => by cases h) h1, Or.inr ⟨a, rfl, Or.inl ⟨hcm, h1, rfl⟩⟩⟩
    · by_cases h0 : 0 < L.length
      · obtain ⟨b, off, e, _, _⟩ := h.all h0
        injection e with e
        subst e
        have hadd : (⟨b, off, none⟩ : Addr).add (p * 4) = ⟨b, off + p * 4, none⟩ := by unfold Addr.add; split <;> simp_all
        have hq := Sl.drop h (k := p) (by omega)
        rw [← hdl] at hq
        have hq2 := hq.take (k := n) (by omega)
        exact ⟨_, hq2, Or.inr ⟨_, rfl, Or.inr ⟨hcm, by rw [hadd]⟩⟩⟩
      · exact ⟨some (a.add (p * 4)), hemp _ _ (fun h => by cases h) (by omega), Or.inr ⟨a, rfl, Or.inr ⟨hcm, rfl⟩⟩⟩

theorem ents_ite {F : Nat → Prop} {w : World} {ao : Option Addr} {cap p n : Nat} {L : List EntP} (h : Ents F w (.slice ao L.length cap) L) (hp : p + n ≤ L.length) :
    Ents F w (.slice (if cap = p then ao else Option.map (fun x => x.add (p * 4)) ao) n (cap - p)) ((L.drop p).take n) := by
  obtain ⟨av, h1, h2⟩ := ents_part h hp
  have e : (if cap = p then ao else Option.map (fun x => x.add (p * 4)) ao) = av := by
    rcases h2 with ⟨rfl, rfl, _, rfl, rfl, _⟩ | ⟨a, rfl, ⟨rfl, _, rfl⟩ | ⟨h3, rfl⟩⟩
    · rfl
    · rw [if_pos rfl]
    · rw [if_neg h3]; rfl
  rw [e]
  exact h1

/-- a log lies in a box -/
def Boxed (S : Nat) (V : World) (es : List EntP) (b : Nat) (a : Option Addr) (c : Nat) (w : World) : Prop :=
  w.heap[b]? = some (.cells (oLog 0 0 (.slice a es.length c)) 52 (0, 0)) ∧ Ents (fun k => S ≤ k) w (.slice a es.length c) es ∧ Below V.heap.size V w

theorem Boxed.late {V V3 : World} {es : List EntP} {a : Option Addr} {c : Nat} (hb : Below V.heap.size V V3) (ho : OwnE V.heap.size V3 (.slice a es.length c) es) :
    Boxed V.heap.size V es V3.heap.size a c (V3.alloc (.cells (oLog 0 0 (.slice a es.length c)) 52)) :=
  ⟨hp_at _ _ rfl, ho.ents.frame (Plain.good _) (Agree.alloc _ _ _), hb.alloc hb.size _⟩
theorem Boxed.soon {V V3 U : World} {es : List EntP} {a : Option Addr} {c : Nat} (hU : (V.alloc (.cells (oLog 0 0 (.slice none 0 0)) 52)).drew = U) (hb : Below U.heap.size U V3) (ho : OwnE U.heap.size V3 (.slice a es.length c) es) :
    Boxed V.heap.size V es V.heap.size a c (setAll V3 V.heap.size [.int .i64 0, .int .i64 0, .slice a es.length c]) := by
  have hs : U.heap.size = V.heap.size + 1 := by rw [← hU]; show (V.alloc _).heap.size = _; simp
  have h0 : U.heap[V.heap.size]? = some (.cells (oLog 0 0 (.slice none 0 0)) 52 (0, 0)) := by rw [← hU]; exact hp_at _ _ rfl
  have hV : Below V.heap.size V U := by rw [← hU]; exact ((Below.refl _ _).alloc (Nat.le_refl _) _).drew
  have h3 : V3.heap[V.heap.size]? = some (.cells (oLog 0 0 (.slice none 0 0)) 52 (0, 0)) := (hb.block _ (by omega)).trans h0
  refine ⟨setAll_at (xs := [.int .i64 0, .int .i64 0, .slice none 0 0]) h3 _ rfl, ?_, setAll_below (hV.trans (hb.mono (by omega))) (Nat.le_refl _) _⟩
  have hE : Ents (fun k => U.heap.size ≤ k) (setAll V3 V.heap.size [.int .i64 0, .int .i64 0, .slice a es.length c]) (.slice a es.length c) es :=
    ho.ents.frame (Plain.good _) ⟨by rw [setFrom_size]; exact Nat.le_refl _, fun k h1 _ => setFrom_other (by omega) _ _ 0⟩
  exact hE.weak (Plain.good _) (fun k h1 _ => by omega)
theorem fits_of {L M : List EntP} {k p n m : Nat} (h : Lg.Share L M k) (hn : p + n ≤ L.length) (hk : p ≤ k) (hm : m = p + n) {Y : Ext} (hY : ext 0 0 M p (termIn L p) ((L.drop p).take n) = Y) :
    Y.look = 0 ∧ Y.mat = (m : Int) ∧ m ≤ Y.es.length ∧ k ≤ Y.es.length ∧ (∀ j, j < m → Y.es[j]? = L[j]?) ∧ ((m ≤ k ∧ Y.first = 0 ∧ Y.es.length = M.length) ∨ (k < m ∧ Y.first = (k : Int) + 1)) := by
  subst hm
  rw [h.extFit hn hk] at hY
  have hkM := h.kM
  split at hY
  · rename_i hl
    subst hY
    exact ⟨rfl, rfl, by show _ ≤ M.length; omega, hkM, fun j hj => h.same j (by omega), Or.inl ⟨hl, rfl, rfl⟩⟩
  · subst hY
    have hl : (L.take (p + n)).length = p + n := by rw [List.length_take]; omega
    exact ⟨rfl, rfl, by show _ ≤ (L.take (p + n)).length; omega, by show _ ≤ (L.take (p + n)).length; omega, fun j hj => by show (L.take (p + n))[j]? = _; rw [List.getElem?_take, if_pos hj], Or.inr ⟨by omega, rfl⟩⟩
theorem off_of {L M : List EntP} {k p : Nat} (h : Lg.Share L M k) (hp : p ≤ L.length) (hk : k < p) {es : List EntP} {Y : Ext} (hY : ext 0 0 M p (termIn L p) es = Y) :
    Y.es = M ∧ Y.mat = 0 ∧ Y.first = 0 ∧ ∃ q : Nat, Y.look = (q : Int) + 1 ∧ q < p := by
  rw [h.extOff (n := 0) hp hk] at hY
  subst hY
  obtain ⟨q, h1, h2, _⟩ := (Back.start M p).step (by omega)
  exact ⟨rfl, rfl, rfl, q, h1, h2⟩
end Go.Proofs.Ytlknkhmhdmpdkaa
