/-
  Writing lists and configurations, both ways. Configurations as bytes, both ways.
-/
import Derived.Test.YtgdmcbjlfnjhjaaNf
import Derived.Test.YtgdmcbjlfnjhjaaEq
import Derived.Test.YtgdmcbjlfnjhjaaGp
import Derived.Test.YtgdmcbjlfnjhjaaWp
import Derived.Deep.DeepCutAuto
namespace Go.Proofs.Ytgdmcbjlfnjhjaa
open Go.RowKit Wm Mm
set_option linter.unusedVariables false

theorem ints_cell_at {w : World} {a : Option Addr} {n c : Nat} {l : List Int} (h : Ints w (.slice a n c) l) (j : Nat) (x : Int) (hx : l[j]? = some x) :
    ∃ b off, a = some ⟨b, off, none⟩ ∧ w.cell? ⟨b, off + j, none⟩ = some (.int .i64 x) := by
  obtain ⟨ao, cap, he, h1, h2⟩ := h
  obtain ⟨b, off, rfl, h3⟩ := h1 (fun e => by rw [e] at hx; simp at hx)
  injection he with e1 e2 e3
  exact ⟨b, off, e1, h3 j x hx⟩
theorem ints_slice {w : World} {v : Value} {m : List Nat} (h : Ints w v (ints m)) : ∃ ao cap, v = .slice ao m.length cap := by
  obtain ⟨ao, cap, rfl, _, _⟩ := h
  exact ⟨ao, cap, by simp [ints]⟩

def putList (l : List Nat) : List UInt8 := putNum l.length ++ putNums l
theorem putList_len (l : List Nat) (h : ∀ n ∈ l, n < 9223372036854775808) (h9 : l.length ≤ 9) : (putList l).length ≤ 90 := by
  have h1 := putNums_len l h
  have h2 := putNum_len10 (n := l.length) (by omega)
  simp [putList]; omega

end Go.Proofs.Ytgdmcbjlfnjhjaa

namespace Go.Proofs.Ytgdmcbjlfnjhjaa
open Go.RowKit Wm Mm
set_option linter.unusedVariables false

theorem okAt_facts {l : List Int} {i : Nat} (hi : i < l.length) (h : okAt l i = true) : 1 ≤ l[i] ∧ l[i] ≤ 9 ∧ ∀ j (hj : j + 1 = i), l[j]'(by omega) < l[i] := by
  unfold okAt at h
  rw [List.getElem?_eq_getElem hi] at h
  simp only [okX, Bool.and_eq_true, decide_eq_true_eq] at h
  refine ⟨h.1, h.2.1, fun j hj => ?_⟩
  subst hj
  have h2 := h.2.2
  rw [okPrev, List.getElem?_eq_getElem (by omega : j < l.length)] at h2
  simpa using h2
theorem rising_facts {l : List Int} (h : risingB l = true) : ∃ m : List Nat, l = ints m ∧ (∀ n ∈ m, n ≤ 9) ∧ m.length ≤ 9 := by
  have hall : ∀ i (hi : i < l.length), okAt l i = true := by
    intro i hi
    simp only [risingB, List.all_eq_true, List.mem_range] at h
    exact h i hi
  have hge : ∀ i (hi : i < l.length), (i : Int) + 1 ≤ l[i] := by
    intro i
    induction i with
    | zero => intro hi; have := (okAt_facts hi (hall 0 hi)).1; simpa using this
    | succ j ih =>
      intro hi
      have h1 := ih (by omega)
      have h2 := (okAt_facts hi (hall _ hi)).2.2 j rfl
      push_cast
      omega
  have hb : ∀ x ∈ l, 1 ≤ x ∧ x ≤ 9 := by
    intro x hx
    obtain ⟨i, hi, rfl⟩ := List.getElem_of_mem hx
    have := okAt_facts hi (hall i hi)
    exact ⟨this.1, this.2.1⟩
  refine ⟨l.map Int.toNat, ?_, ?_, ?_⟩
  · simp only [ints, List.map_map]
    conv => lhs; rw [← List.map_id l]
    apply List.map_congr_left
    intro x hx
    have := hb x hx
    simp; omega
  · intro n hn
    obtain ⟨x, hx, rfl⟩ := List.mem_map.1 hn
    have := hb x hx
    omega
  · rw [List.length_map]
    rcases Nat.eq_zero_or_pos l.length with h0 | h0
    · omega
    · have h1 := hge (l.length - 1) (by omega)
      have h2 := (okAt_facts (i := l.length - 1) (by omega) (hall _ (by omega))).2.1
      omega
def natL (l : List Int) : List Nat := l.map Int.toNat
theorem natL_ints (m : List Nat) : natL (ints m) = m := by
  simp [natL, ints, Function.comp_def]
def putConf (c : Conf) : List UInt8 := putList (natL c.v) ++ (putList (natL c.n) ++ putList (natL c.l))
theorem valid_facts {c : Conf} (h : validB c = true) : ∃ m1 m2 m3 : List Nat, c = ⟨ints m1, ints m2, ints m3⟩ ∧ (∀ n ∈ m1, n ≤ 9) ∧ (∀ n ∈ m2, n ≤ 9) ∧ (∀ n ∈ m3, n ≤ 9) ∧ m1.length ≤ 9 ∧ m2.length ≤ 9 ∧ m3.length ≤ 9 := by
  simp only [validB, Bool.and_eq_true] at h
  obtain ⟨_, h1, h2, h3, _⟩ := h
  obtain ⟨m1, e1, a1, b1⟩ := rising_facts h1
  obtain ⟨m2, e2, a2, b2⟩ := rising_facts h2
  obtain ⟨m3, e3, a3, b3⟩ := rising_facts h3
  refine ⟨m1, m2, m3, ?_, a1, a2, a3, b1, b2, b3⟩
  cases c
  simp_all
def putConfB (c : Conf) : List UInt8 := if validB c = true then putConf c else []
def putConfE (c : Conf) : Int := if validB c = true then 0 else 8
theorem putConf_len {c : Conf} (h : validB c = true) : (putConf c).length ≤ 270 := by
  obtain ⟨m1, m2, m3, rfl, a1, a2, a3, b1, b2, b3⟩ := valid_facts h
  have h1 := putList_len m1 (fun n hn => by have := a1 n hn; omega) b1
  have h2 := putList_len m2 (fun n hn => by have := a2 n hn; omega) b2
  have h3 := putList_len m3 (fun n hn => by have := a3 n hn; omega) b3
  simp only [putConf, natL_ints, List.length_append]
  omega

end Go.Proofs.Ytgdmcbjlfnjhjaa
