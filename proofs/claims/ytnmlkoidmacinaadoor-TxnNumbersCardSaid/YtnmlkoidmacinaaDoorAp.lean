/-
  The built-in clear behind the end of a row of one's own. No program in sight.
-/
import Derived.Test.YtnmlkoidmacinaaDoorFo
namespace Go.Proofs.YtnmlkoidmacinaaDoor.Mm
open Go.RowKit
set_option linter.unusedVariables false
set_option linter.unusedSimpArgs false

/-- .. and nothing but the row's block changes -/
theorem own_clear_g {P : Program} {w : World} {S : Nat} {t e : TypeId} {size n g cap : Nat} {xs : List Value} {z : Value} (h : w.ownsRow S e size (.slice (some ⟨g, 0, none⟩) n cap) n xs) (ht : P.underlying t = some (.slice e)) (hv : ∀ w, (zeroValue e).run P w = .ok z w) (hz : z.cells.size = size) (h1 : ∀ u ∈ z.cells.toList, u.oneCell' = true) {k cnt : Nat} (hk : k ≤ n) (h0 : 0 < cnt) (hkc : k + cnt ≤ cap) (hS : S ≤ w.heap.size) (c : Nat) :
    ∃ w', (∀ ty, (Builtin.clear_ #[t] ty #[.slice (some ⟨g, k * size, none⟩) cnt c]).run P w = .ok (.tuple #[]) w') ∧ w'.ownsRow S e size (.slice (some ⟨g, 0, none⟩) k cap) k (xs.take (k * size)) ∧ w.grownBy w' (some g) := by
  have hl := h.1
  rcases h.2 with ⟨hv', _⟩ | ⟨g', cap', cur, hv', hb, hg, hn, hc, hs, hx⟩
  · cases hv'
  · injection hv' with e1 e2 e3
    injection e1 with e1
    injection e1 with e1
    subst e1 e3
    obtain ⟨zs, hzs⟩ : ∃ zs, zs = (Builtin.zeroCells z.cells cnt).toList := ⟨_, rfl⟩
    have hzl : zs.length = cnt * size := by rw [hzs, zeros_len, hz]
    have hks : k * size + cnt * size ≤ cap * size := by rw [← Nat.add_mul]; exact Nat.mul_le_mul_right _ hkc
    have hst := run_storeCells_at (P := P) g (k * size) e zs 0 cur w hg (by rw [Nat.add_zero, hzl, hs]; exact hks) (by rw [hzs]; exact zeros_one h1 _)
    rw [Nat.add_zero] at hst
    obtain ⟨new, hnew⟩ : ∃ new, new = (cur.toList.take (k * size) ++ zs ++ cur.toList.drop (k * size + zs.length)).toArray := ⟨_, rfl⟩
    rw [← hnew] at hst
    have hcl : cur.toList.length = cap * size := by simpa using hs
    have hns : new.size = cap * size := by
      rw [hnew]
      simp only [List.size_toArray, List.length_append, List.length_take, List.length_drop]
      rw [hcl, hzl]
      omega
    refine ⟨w.setRow g new, fun ty => ?_, ⟨?_, Or.inr ⟨g, _, new, rfl, hb, setRow_heap w g cur new e (0, 0) hg, by omega, hc, hns, ?_⟩⟩, ?_⟩
    · obtain ⟨m, hm⟩ : ∃ m, cnt = m + 1 := ⟨cnt - 1, by omega⟩
      rw [hm] at hzs ⊢
      rw [hzs] at hst
      simp [Builtin.clear_, run_underlying ht, hv, hst]
    · rw [List.length_take, hl]
      have : k * size ≤ n * size := Nat.mul_le_mul_right _ (by omega)
      omega
    · have hkc : k * size ≤ cap * size := Nat.mul_le_mul_right _ (by omega)
      have hkn : k * size ≤ n * size := Nat.mul_le_mul_right _ (by omega)
      rw [hnew]
      simp only [List.append_assoc]
      rw [List.take_append_of_le_length (by rw [List.length_take, hcl]; omega), List.take_take, Nat.min_self, ← hx, List.take_take, Nat.min_eq_left hkn]
    · exact ⟨rfl, rfl, rfl, by simp, fun j _ hj => setRow_other w g j new (fun e => hj (by rw [e]))⟩
theorem setAll_cell {w : World} {b : Nat} (vs : List Value) {a : Addr} (h : b ≠ a.block) : (setAll w b vs).cell? a = w.cell? a := World.cell?_of_block (setFrom_other h vs w 0)
theorem grown_fresh0 {w w' : World} {B : Nat} (hg : w.grownBy w' (Value.slice none 0 0).ownBlock) (hB : B ≤ w.heap.size) : Below B w w' :=
  ⟨hg.os, hg.tape, hg.output, hg.size, fun k hk => hg.block k (by omega) (by simp [Value.ownBlock])⟩

end Go.Proofs.YtnmlkoidmacinaaDoor.Mm
