/-
  The built-in clear on the end of a slice of one's own.
-/
import Derived.Test.YtjlhlmnoomiblaaZ06
namespace Go.Proofs.Ytjlhlmnoomiblaa.Mm
open Go.RowKit
set_option linter.unusedVariables false
set_option linter.unusedSimpArgs false

theorem zeros_len (z : Array Value) (n : Nat) : (Builtin.zeroCells z n).toList.length = n * z.size := by simp [Builtin.zeroCells]
theorem zeros_one {z : Array Value} (h : ∀ u ∈ z.toList, u.oneCell' = true) (n : Nat) : ∀ u ∈ (Builtin.zeroCells z n).toList, u.oneCell' = true := by
  intro u hu
  simp only [Builtin.zeroCells, Array.toList_map, List.mem_map] at hu
  obtain ⟨i, hi, rfl⟩ := hu
  have hi2 : i < n * z.size := by simpa using hi
  have hz : 0 < z.size := by
    rcases Nat.eq_zero_or_pos z.size with h0 | h0
    · rw [h0] at hi2; omega
    · exact h0
  have hm : i % z.size < z.size := Nat.mod_lt _ hz
  refine h _ ?_
  rw [getElem!_pos z (i % z.size) hm]
  exact Array.getElem_mem_toList hm
theorem own_clear {P : Program} {w : World} {S : Nat} {t e : TypeId} {size n g cap : Nat} {xs : List Value} {z : Value} (h : w.ownsRow S e size (.slice (some ⟨g, 0, none⟩) n cap) n xs) (ht : P.underlying t = some (.slice e)) (hv : ∀ w, (zeroValue e).run P w = .ok z w) (hz : z.cells.size = size) (h1 : ∀ u ∈ z.cells.toList, u.oneCell' = true) {k : Nat} (hk : k < n) (hS : S ≤ w.heap.size) (c : Nat) :
    ∃ w', (∀ ty, (Builtin.clear_ #[t] ty #[.slice (some ⟨g, k * size, none⟩) (n - k) c]).run P w = .ok (.tuple #[]) w') ∧ w'.ownsRow S e size (.slice (some ⟨g, 0, none⟩) k cap) k (xs.take (k * size)) ∧ Below S w w' := by
  have hl := h.1
  rcases h.2 with ⟨hv', _⟩ | ⟨g', cap', cur, hv', hb, hg, hn, hc, hs, hx⟩
  · cases hv'
  · injection hv' with e1 e2 e3
    injection e1 with e1
    injection e1 with e1
    subst e1 e3
    obtain ⟨zs, hzs⟩ : ∃ zs, zs = (Builtin.zeroCells z.cells (n - k)).toList := ⟨_, rfl⟩
    have hzl : zs.length = (n - k) * size := by rw [hzs, zeros_len, hz]
    have hks : k * size + (n - k) * size = n * size := by rw [← Nat.add_mul]; congr 1; omega
    have hnc : n * size ≤ cap * size := Nat.mul_le_mul_right _ hn
    have hst := run_storeCells_at (P := P) g (k * size) e zs 0 cur w hg (by rw [Nat.add_zero, hzl, hks, hs]; exact hnc) (by rw [hzs]; exact zeros_one h1 _)
    rw [Nat.add_zero] at hst
    obtain ⟨new, hnew⟩ : ∃ new, new = (cur.toList.take (k * size) ++ zs ++ cur.toList.drop (k * size + zs.length)).toArray := ⟨_, rfl⟩
    rw [← hnew] at hst
    have hcl : cur.toList.length = cap * size := by simpa using hs
    have hns : new.size = cap * size := by
      rw [hnew]
      simp only [List.size_toArray, List.length_append, List.length_take, List.length_drop]
      rw [hcl, hzl]
      omega
    refine ⟨w.setRow g new, fun ty => ?_, ⟨?_, Or.inr ⟨g, _, new, rfl, hb, setRow_heap w g cur new e (0, 0) hg, by omega, hc, hns, ?_⟩⟩, ?_⟩
    · obtain ⟨m, hm⟩ : ∃ m, n - k = m + 1 := ⟨n - k - 1, by omega⟩
      rw [hm] at hzs ⊢
      rw [hzs] at hst
      simp [Builtin.clear_, run_underlying ht, hv, hst]
    · rw [List.length_take, hl]
      have : k * size ≤ n * size := Nat.mul_le_mul_right _ (by omega)
      omega
    · have hkc : k * size ≤ cap * size := Nat.mul_le_mul_right _ (by omega)
      have hkn : k * size ≤ n * size := Nat.mul_le_mul_right _ (by omega)
      rw [hnew]
      simp only [List.append_assoc]
      rw [List.take_append_of_le_length (by rw [List.length_take, hcl]; omega), List.take_take, Nat.min_self, ← hx, List.take_take, Nat.min_eq_left hkn]
    · exact ⟨rfl, rfl, rfl, by simp, fun j hj => setRow_other w g j new (by omega)⟩
end Go.Proofs.Ytjlhlmnoomiblaa.Mm
