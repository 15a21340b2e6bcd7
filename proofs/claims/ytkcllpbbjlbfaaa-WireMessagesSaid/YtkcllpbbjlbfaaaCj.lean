/-
  Are two configurations the same? the document's way.
-/
import Derived.Test.YtkcllpbbjlbfaaaCh
namespace Go.Proofs.Ytkcllpbbjlbfaaa
open Go.RowKit Wm Mm
set_option linter.unusedVariables false

def sameConf (c c' : Conf) : Bool := decide (c.v = c'.v) && (decide (c.n = c'.n) && decide (c.l = c'.l))

set_option maxHeartbeats 2000000 in
theorem ref_sameConfig (a b d a' b' d' : Value) (c c' : Conf) (w : World) (hc : Config3 w a b d c) (hc' : Config3 w a' b' d' c') :
    Calls Try.prog 57 #[.agg #[a, b, d], .agg #[a', b', d']] w fun e w' => e = .returned (.bool (sameConf c c')) ∧ Below w.heap.size w w' := by
  obtain ⟨post, HP⟩ := hide (fun (e : Ending) (w' : World) => e = .returned (.bool (sameConf c c')) ∧ Below w.heap.size w w')
  rw [HP.out]
  have hb1 : Below w.heap.size w ((w.alloc (.cells #[a, b, d] 25)).alloc (.cells #[a', b', d'] 25)) := ((Below.refl _ _).alloc (Nat.le_refl _) _).alloc (by simp) _
  obtain ⟨W, hW⟩ := hide ((w.alloc (.cells #[a, b, d] 25)).alloc (.cells #[a', b', d'] 25))
  have hx : W.heap[w.heap.size]? = some (.cells #[a, b, d] 25 (0, 0)) := by rw [← hW.out]; exact (hp_past _ _ (by simp)).trans (hp_at _ _ rfl)
  have hy : W.heap[w.heap.size + 1]? = some (.cells #[a', b', d'] 25 (0, 0)) := by rw [← hW.out]; exact hp_at _ _ (by simp)
  rw [hW.out] at hb1
  have Hx : Hid (∀ w', Below W.heap.size W w' → w'.heap[w.heap.size]? = some (.cells #[a, b, d] 25 (0, 0)) ∧ w'.heap[w.heap.size + 1]? = some (.cells #[a', b', d'] 25 (0, 0)) ∧ Below w.heap.size w w') := fun w' h => ⟨(h.block _ (lt_of_block hx)).trans hx, (h.block _ (lt_of_block hy)).trans hy, hb1.trans (h.mono hb1.size)⟩
  have HI : Hid (∀ w', Below w.heap.size w w' → (Calls Try.prog 66 #[a, a'] w' fun e w'' => e = .returned (.bool (decide (c.v = c'.v))) ∧ Below w'.heap.size w' w'') ∧ (Calls Try.prog 66 #[b, b'] w' fun e w'' => e = .returned (.bool (decide (c.n = c'.n))) ∧ Below w'.heap.size w' w'') ∧ (Calls Try.prog 66 #[d, d'] w' fun e w'' => e = .returned (.bool (decide (c.l = c'.l))) ∧ Below w'.heap.size w' w'')) := by
    show ∀ w', _ → _
    intro w' hw
    have h := hc.mono hw
    have h' := hc'.mono hw
    exact ⟨ref_sameInts _ _ _ _ _ h.v h'.v, ref_sameInts _ _ _ _ _ h.n h'.n, ref_sameInts _ _ _ _ _ h.l h'.l⟩
  obtain ⟨r1, hr1⟩ := hide (decide (c.v = c'.v))
  obtain ⟨r2, hr2⟩ := hide (decide (c.n = c'.n))
  obtain ⟨r3, hr3⟩ := hide (decide (c.l = c'.l))
  rw [hr1.out, hr2.out, hr3.out] at HI
  have HS : Hid (sameConf c c' = (r1 && (r2 && r3))) := by show _ = _; rw [← hr1.out, ← hr2.out, ← hr3.out]; rfl
  have Hp : Hid (∀ z w', Below W.heap.size W w' → (r1 && (r2 && r3)) = z → post (.returned (.bool z)) w') := by
    show ∀ z w', _ → _ → _
    intro z w' hw hz; rw [← HP.out, ← hz, HS.out]; exact ⟨rfl, hb1.trans (hw.mono hb1.size)⟩
  clear hb1 hx hy hc hc'
  obtain ⟨B, hB⟩ := hide w.heap.size
  rw [hB.out] at Hx HI
  have H0 := Lib.hid (Below.refl W.heap.size W)
  obtain ⟨x0, y0, z0⟩ := Hx.out _ H0.out
  have c0 : W.cell? ⟨B, 0, none⟩ = some a := cell_n x0 0 rfl
  have d0 : W.cell? ⟨B + 1, 0, none⟩ = some a' := cell_n y0 0 rfl
  clear x0 y0 z0
  go_enter Try.func57, Try.ntmps57
  go_upto_region 1 with fail
  rw [hW.out, hB.out]
  go_wp2_with fail
  refine (HI.out _ (Hx.out _ H0.out).2.2).1.mono ?_
  rintro e w1 ⟨rfl, hb1⟩
  have H1 := Lib.hid (H0.out.trans (hb1.mono H0.out.size))
  obtain ⟨x0, y0, z0⟩ := Hx.out _ H1.out
  clear c0 d0
  have c0 : w1.cell? ⟨B, 1, none⟩ = some b := cell_n x0 1 rfl
  have d0 : w1.cell? ⟨B + 1, 1, none⟩ = some b' := cell_n y0 1 rfl
  clear x0 y0 z0 hb1
  go_wp2_with fail
  refine (HI.out _ (Hx.out _ H1.out).2.2).2.1.mono ?_
  rintro e w2 ⟨rfl, hb1⟩
  have H2 := Lib.hid (H1.out.trans (hb1.mono H1.out.size))
  obtain ⟨x0, y0, z0⟩ := Hx.out _ H2.out
  clear c0 d0
  have c0 : w2.cell? ⟨B, 2, none⟩ = some d := cell_n x0 2 rfl
  have d0 : w2.cell? ⟨B + 1, 2, none⟩ = some d' := cell_n y0 2 rfl
  clear x0 y0 z0 hb1
  go_wp2_with fail
  refine (HI.out _ (Hx.out _ H2.out).2.2).2.2.mono ?_
  rintro e w3 ⟨rfl, hb1⟩
  have H3 := Lib.hid (H2.out.trans (hb1.mono H2.out.size))
  clear c0 d0 hb1
  cases r1 <;> cases r2 <;> cases r3
  all_goals
    have Hq := Lib.hid (Hp.out _ w3 H3.out rfl)
    go_wp2_with fail
    exact Hq.out
end Go.Proofs.Ytkcllpbbjlbfaaa
