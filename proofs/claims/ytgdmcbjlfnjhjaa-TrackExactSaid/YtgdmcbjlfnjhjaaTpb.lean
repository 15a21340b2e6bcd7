/-
  What a leader knows: Ack, exactly, both sides. What a leader knows: Refuse, both sides. What a leader knows: Refuse, the reference's side. What a leader knows: Plan, both sides. What a leader knows: Plan, both sides.
-/
import Derived.Test.YtgdmcbjlfnjhjaaTrm
import Derived.Test.YtgdmcbjlfnjhjaaRb
namespace Go.Proofs.Ytgdmcbjlfnjhjaa
open Go.RowKit Wm Mm
set_option linter.unusedVariables false
set_option linter.unusedSimpArgs false

def ackE (p : ProgP) (index : Int) : ProgP := ⟨p.node, max p.mtch index, max p.nxt (wrap64 (max p.mtch index + 1)), 2, p.active, p.heard⟩
set_option maxHeartbeats 2000000 in
theorem ack_exact (p : ProgP) (index : Int) (w : World) :
    Calls Try.prog 12 #[.agg (arrG p), .int .i64 index] w fun e w' => e = .returned (.agg (arrG (ackE p index))) ∧ Below w.heap.size w w' := by
  obtain ⟨post, HP⟩ := hide (fun (e : Ending) (w' : World) => e = .returned (.agg (arrG (ackE p index))) ∧ Below w.heap.size w w')
  rw [HP.out]
  obtain ⟨W, hW⟩ := hide ((w.alloc (.cells (arrG p) 27)).alloc (.cells #[.int .i64 0, .int .i64 0, .int .i64 0, .int .i64 0, .bool false, .int .i64 0] 27))
  have hx : W.heap[w.heap.size]? = some (.cells (arrG p) 27 (0, 0)) := by rw [← hW.out]; exact (hp_past _ _ (by simp)).trans (hp_at _ _ rfl)
  have hy : W.heap[w.heap.size + 1]? = some (.cells #[.int .i64 0, .int .i64 0, .int .i64 0, .int .i64 0, .bool false, .int .i64 0] 27 (0, 0)) := by rw [← hW.out]; exact hp_at _ _ (by simp)
  have Hb : Hid (Below w.heap.size w W) := by show Below _ _ _; rw [← hW.out]; exact ((Below.refl _ _).alloc (Nat.le_refl _) _).alloc (by simp) _
  obtain ⟨B, hB⟩ := hide w.heap.size
  rw [hB.out] at hx hy Hb HP
  have c1 := cell_n hx 1 (v := .int .i64 p.mtch) rfl
  have f1 := free_n hx 1
  obtain ⟨x, hX⟩ := hide (max p.mtch index)
  obtain ⟨W1, hW1⟩ := hide (W.setCell ⟨B, 1, none⟩ (.int .i64 x))
  have hx1 : W1.heap[B]? = some (.cells (arrG ⟨p.node, x, p.nxt, p.state, p.active, p.heard⟩) 27 (0, 0)) := by rw [← hW1.out, heap_setCell]; simp [hx, storeIn]
  have hy1 : W1.heap[B + 1]? = some (.cells #[.int .i64 0, .int .i64 0, .int .i64 0, .int .i64 0, .bool false, .int .i64 0] 27 (0, 0)) := by rw [← hW1.out]; exact hp_set_other hy (by show B ≠ B + 1; omega)
  have Hb1 : Hid (Below B w W1) := by show Below _ _ _; rw [← hW1.out]; exact Hb.out.setCell (p := ⟨B, 1, none⟩) (Nat.le_refl _) _
  clear hx hy
  go_enter Try.func12, Try.ntmps12
  go_upto_region 1 with fail
  rw [hW.out, hB.out]
  go_upto_region 2 with fail
  rw [hX.out, hW1.out]
  clear c1 f1
  have c1 := cell_n hx1 1 (v := .int .i64 x) rfl
  have c2 := cell_n hx1 2 (v := .int .i64 p.nxt) rfl
  have f2 := free_n hx1 2
  obtain ⟨y, hY⟩ := hide (max p.nxt (wrap64 (x + 1)))
  obtain ⟨W2, hW2⟩ := hide (W1.setCell ⟨B, 2, none⟩ (.int .i64 y))
  have hx2 : W2.heap[B]? = some (.cells (arrG ⟨p.node, x, y, p.state, p.active, p.heard⟩) 27 (0, 0)) := by rw [← hW2.out, heap_setCell]; simp [hx1, storeIn]
  have hy2 : W2.heap[B + 1]? = some (.cells #[.int .i64 0, .int .i64 0, .int .i64 0, .int .i64 0, .bool false, .int .i64 0] 27 (0, 0)) := by rw [← hW2.out]; exact hp_set_other hy1 (by show B ≠ B + 1; omega)
  have Hb2 : Hid (Below B w W2) := by show Below _ _ _; rw [← hW2.out]; exact Hb1.out.setCell (p := ⟨B, 2, none⟩) (Nat.le_refl _) _
  clear hx1 hy1
  go_upto_region 3 with fail
  rw [hY.out, hW2.out]
  clear c1 c2 f2
  have c3 := cell_n hx2 3 (v := .int .i64 p.state) rfl
  have f3 := free_n hx2 3
  obtain ⟨W3, hW3⟩ := hide (W2.setCell ⟨B, 3, none⟩ (.int .i64 2))
  have hx3 : W3.heap[B]? = some (.cells (arrG ⟨p.node, x, y, 2, p.active, p.heard⟩) 27 (0, 0)) := by rw [← hW3.out, heap_setCell]; simp [hx2, storeIn]
  have hy3 : W3.heap[B + 1]? = some (.cells #[.int .i64 0, .int .i64 0, .int .i64 0, .int .i64 0, .bool false, .int .i64 0] 27 (0, 0)) := by rw [← hW3.out]; exact hp_set_other hy2 (by show B ≠ B + 1; omega)
  have Hb3 : Hid (Below B w W3) := by show Below _ _ _; rw [← hW3.out]; exact Hb2.out.setCell (p := ⟨B, 3, none⟩) (Nat.le_refl _) _
  clear hx2 hy2
  go_upto_region 4 with fail
  rw [hW3.out]
  clear c3 f3
  have b0 := cell_n hx3 0 (v := .int .i64 p.node) rfl
  have b1 := cell_n hx3 1 (v := .int .i64 x) rfl
  have b2 := cell_n hx3 2 (v := .int .i64 y) rfl
  have b3 := cell_n hx3 3 (v := .int .i64 2) rfl
  have b4 := cell_n hx3 4 (v := .bool p.active) rfl
  have b5 := cell_n hx3 5 (v := .int .i64 p.heard) rfl
  have q0 := cell_n hy3 0 (v := .int .i64 0) rfl
  have q1 := cell_n hy3 1 (v := .int .i64 0) rfl
  have q2 := cell_n hy3 2 (v := .int .i64 0) rfl
  have q3 := cell_n hy3 3 (v := .int .i64 0) rfl
  have q4 := cell_n hy3 4 (v := .bool false) rfl
  have q5 := cell_n hy3 5 (v := .int .i64 0) rfl
  have g0 := free_n hy3 0
  have g1 := free_n hy3 1
  have g2 := free_n hy3 2
  have g3 := free_n hy3 3
  have g4 := free_n hy3 4
  have g5 := free_n hy3 5
  have HE9 := Lib.hid (setAll_at (xs := [.int .i64 0, .int .i64 0, .int .i64 0, .int .i64 0, .bool false, .int .i64 0]) hy3 [.int .i64 p.node, .int .i64 x, .int .i64 y, .int .i64 2, .bool p.active, .int .i64 p.heard] rfl)
  have HB9 := Lib.hid (setAll_below Hb3.out (Nat.le_succ B) [.int .i64 p.node, .int .i64 x, .int .i64 y, .int .i64 2, .bool p.active, .int .i64 p.heard])
  clear hx3 hy3
  go_wp2_with fail
  change bodyPost _ _ _ Exit.ret _ (setAll W3 (B + 1) [.int .i64 p.node, .int .i64 x, .int .i64 y, .int .i64 2, .bool p.active, .int .i64 p.heard])
  generalize setAll W3 (B + 1) [.int .i64 p.node, .int .i64 x, .int .i64 y, .int .i64 2, .bool p.active, .int .i64 p.heard] = W9 at HE9 HB9 ⊢
  clear q0 q1 q2 q3 q4 q5 g0 g1 g2 g3 g4 g5 b0 b1 b2 b3 b4 b5
  have e0 := cell_n HE9.out 0 (v := .int .i64 p.node) rfl
  have e1 := cell_n HE9.out 1 (v := .int .i64 x) rfl
  have e2 := cell_n HE9.out 2 (v := .int .i64 y) rfl
  have e3 := cell_n HE9.out 3 (v := .int .i64 2) rfl
  have e4 := cell_n HE9.out 4 (v := .bool p.active) rfl
  have e5 := cell_n HE9.out 5 (v := .int .i64 p.heard) rfl
  refine bodyPost_ret (by simp [results, Try.results12, go_sem, e0, e1, e2, e3, e4, e5]; rfl) rfl ?_
  rw [← HP.out]
  exact ⟨by rw [show ackE p index = ⟨p.node, x, y, 2, p.active, p.heard⟩ from by unfold ackE; rw [hX.out, hY.out]], HB9.out⟩
set_option maxHeartbeats 2000000 in
theorem refAck_law (p : ProgP) (index : Int) (w : World) (hm : -9223372036854775808 ≤ p.mtch ∧ p.mtch ≤ 1099511627775) (hi : -9223372036854775808 ≤ index ∧ index ≤ 1099511627775) :
    Calls Try.prog 40 #[.agg (arrG p), .int .i64 index] w fun e w' => e = .returned (.agg (arrG (ackE p index))) ∧ Below w.heap.size w w' := by
  have hwr : ∀ m : Int, -9223372036854775808 ≤ m ∧ m ≤ 1099511627775 → wrap64 (m + 1) = m + 1 := fun m h => IntWalk.wrap64_in _ (by omega)
  obtain ⟨post, HP⟩ := hide (fun (e : Ending) (w' : World) => e = .returned (.agg (arrG (ackE p index))) ∧ Below w.heap.size w w')
  rw [HP.out]
  obtain ⟨W, hW⟩ := hide ((w.alloc (.cells (arrG p) 27)).alloc (.cells #[.int .i64 0, .int .i64 0, .int .i64 0, .int .i64 0, .bool false, .int .i64 0] 27))
  have hx : W.heap[w.heap.size]? = some (.cells (arrG p) 27 (0, 0)) := by rw [← hW.out]; exact (hp_past _ _ (by simp)).trans (hp_at _ _ rfl)
  have hy : W.heap[w.heap.size + 1]? = some (.cells #[.int .i64 0, .int .i64 0, .int .i64 0, .int .i64 0, .bool false, .int .i64 0] 27 (0, 0)) := by rw [← hW.out]; exact hp_at _ _ (by simp)
  have Hb : Hid (Below w.heap.size w W) := by show Below _ _ _; rw [← hW.out]; exact ((Below.refl _ _).alloc (Nat.le_refl _) _).alloc (by simp) _
  obtain ⟨B, hB⟩ := hide w.heap.size
  rw [hB.out] at hx hy Hb HP
  go_enter Try.func40, Try.ntmps40
  go_upto_region 1 with fail
  rw [hW.out, hB.out]
  have c1 := cell_n hx 1 (v := .int .i64 p.mtch) rfl
  by_cases h1 : p.mtch < index
  · have t1 : decide (p.mtch < index) = true := decide_eq_true h1
    have hmax : max p.mtch index = index := by omega
    have f1 := free_n hx 1
    obtain ⟨W1, hW1⟩ := hide (W.setCell ⟨B, 1, none⟩ (.int .i64 index))
    have hx1 : W1.heap[B]? = some (.cells (arrG ⟨p.node, index, p.nxt, p.state, p.active, p.heard⟩) 27 (0, 0)) := by rw [← hW1.out, heap_setCell]; simp [hx, storeIn]
    have hy1 : W1.heap[B + 1]? = some (.cells #[.int .i64 0, .int .i64 0, .int .i64 0, .int .i64 0, .bool false, .int .i64 0] 27 (0, 0)) := by rw [← hW1.out]; exact hp_set_other hy (by show B ≠ B + 1; omega)
    have Hb1 : Hid (Below B w W1) := by show Below _ _ _; rw [← hW1.out]; exact Hb.out.setCell (p := ⟨B, 1, none⟩) (Nat.le_refl _) _
    clear hx hy h1
    go_upto_region 3 with fail
    rw [hW1.out]
    clear c1 f1
    by_cases h2 : p.nxt ≤ index
    · have t2 : decide (p.nxt ≤ index) = true := decide_eq_true h2
      have hres : ackE p index = ⟨p.node, index, index + 1, 2, p.active, p.heard⟩ := by unfold ackE; rw [hmax, hwr index hi, show max p.nxt (index + 1) = index + 1 from by omega]
      have hr := hi
      clear h2
      have c1 := cell_n hx1 1 (v := .int .i64 index) rfl
      have c2 := cell_n hx1 2 (v := .int .i64 p.nxt) rfl
      have f2 := free_n hx1 2
      obtain ⟨W2, hW2⟩ := hide (W1.setCell ⟨B, 2, none⟩ (.int .i64 (index + 1)))
      have hx2 : W2.heap[B]? = some (.cells (arrG ⟨p.node, index, index + 1, p.state, p.active, p.heard⟩) 27 (0, 0)) := by rw [← hW2.out, heap_setCell]; simp [hx1, storeIn]
      have hy2 : W2.heap[B + 1]? = some (.cells #[.int .i64 0, .int .i64 0, .int .i64 0, .int .i64 0, .bool false, .int .i64 0] 27 (0, 0)) := by rw [← hW2.out]; exact hp_set_other hy1 (by show B ≠ B + 1; omega)
      have Hb2 : Hid (Below B w W2) := by show Below _ _ _; rw [← hW2.out]; exact Hb1.out.setCell (p := ⟨B, 2, none⟩) (Nat.le_refl _) _
      clear hx1 hy1
      go_upto_region 5 with fail
      rw [hW2.out]
      clear c1 c2 f2
      have c3 := cell_n hx2 3 (v := .int .i64 p.state) rfl
      have f3 := free_n hx2 3
      obtain ⟨W3, hW3⟩ := hide (W2.setCell ⟨B, 3, none⟩ (.int .i64 2))
      have hx3 : W3.heap[B]? = some (.cells (arrG ⟨p.node, index, (index + 1), 2, p.active, p.heard⟩) 27 (0, 0)) := by rw [← hW3.out, heap_setCell]; simp [hx2, storeIn]
      have hy3 : W3.heap[B + 1]? = some (.cells #[.int .i64 0, .int .i64 0, .int .i64 0, .int .i64 0, .bool false, .int .i64 0] 27 (0, 0)) := by rw [← hW3.out]; exact hp_set_other hy2 (by show B ≠ B + 1; omega)
      have Hb3 : Hid (Below B w W3) := by show Below _ _ _; rw [← hW3.out]; exact Hb2.out.setCell (p := ⟨B, 3, none⟩) (Nat.le_refl _) _
      clear hx2 hy2
      go_upto_region 6 with fail
      rw [hW3.out]
      clear c3 f3
      have b0 := cell_n hx3 0 (v := .int .i64 p.node) rfl
      have b1 := cell_n hx3 1 (v := .int .i64 index) rfl
      have b2 := cell_n hx3 2 (v := .int .i64 (index + 1)) rfl
      have b3 := cell_n hx3 3 (v := .int .i64 2) rfl
      have b4 := cell_n hx3 4 (v := .bool p.active) rfl
      have b5 := cell_n hx3 5 (v := .int .i64 p.heard) rfl
      have q0 := cell_n hy3 0 (v := .int .i64 0) rfl
      have q1 := cell_n hy3 1 (v := .int .i64 0) rfl
      have q2 := cell_n hy3 2 (v := .int .i64 0) rfl
      have q3 := cell_n hy3 3 (v := .int .i64 0) rfl
      have q4 := cell_n hy3 4 (v := .bool false) rfl
      have q5 := cell_n hy3 5 (v := .int .i64 0) rfl
      have g0 := free_n hy3 0
      have g1 := free_n hy3 1
      have g2 := free_n hy3 2
      have g3 := free_n hy3 3
      have g4 := free_n hy3 4
      have g5 := free_n hy3 5
      have HE9 := Lib.hid (setAll_at (xs := [.int .i64 0, .int .i64 0, .int .i64 0, .int .i64 0, .bool false, .int .i64 0]) hy3 [.int .i64 p.node, .int .i64 index, .int .i64 (index + 1), .int .i64 2, .bool p.active, .int .i64 p.heard] rfl)
      have HB9 := Lib.hid (setAll_below Hb3.out (Nat.le_succ B) [.int .i64 p.node, .int .i64 index, .int .i64 (index + 1), .int .i64 2, .bool p.active, .int .i64 p.heard])
      clear hx3 hy3
      go_wp2_with fail
      change bodyPost _ _ _ Exit.ret _ (setAll W3 (B + 1) [.int .i64 p.node, .int .i64 index, .int .i64 (index + 1), .int .i64 2, .bool p.active, .int .i64 p.heard])
      generalize setAll W3 (B + 1) [.int .i64 p.node, .int .i64 index, .int .i64 (index + 1), .int .i64 2, .bool p.active, .int .i64 p.heard] = W9 at HE9 HB9 ⊢
      clear q0 q1 q2 q3 q4 q5 g0 g1 g2 g3 g4 g5 b0 b1 b2 b3 b4 b5
      have e0 := cell_n HE9.out 0 (v := .int .i64 p.node) rfl
      have e1 := cell_n HE9.out 1 (v := .int .i64 index) rfl
      have e2 := cell_n HE9.out 2 (v := .int .i64 (index + 1)) rfl
      have e3 := cell_n HE9.out 3 (v := .int .i64 2) rfl
      have e4 := cell_n HE9.out 4 (v := .bool p.active) rfl
      have e5 := cell_n HE9.out 5 (v := .int .i64 p.heard) rfl
      refine bodyPost_ret (by simp [results, Try.results40, go_sem, e0, e1, e2, e3, e4, e5]; rfl) rfl ?_
      rw [← HP.out]
      exact ⟨by rw [hres], HB9.out⟩
    · have t2 : decide (p.nxt ≤ index) = false := decide_eq_false h2
      have hres : ackE p index = ⟨p.node, index, p.nxt, 2, p.active, p.heard⟩ := by unfold ackE; rw [hmax, hwr index hi, show max p.nxt (index + 1) = p.nxt from by omega]
      clear h2
      have c1 := cell_n hx1 1 (v := .int .i64 index) rfl
      have c2 := cell_n hx1 2 (v := .int .i64 p.nxt) rfl
      go_upto_region 5 with fail
      clear c1 c2
      have c3 := cell_n hx1 3 (v := .int .i64 p.state) rfl
      have f3 := free_n hx1 3
      obtain ⟨W3, hW3⟩ := hide (W1.setCell ⟨B, 3, none⟩ (.int .i64 2))
      have hx3 : W3.heap[B]? = some (.cells (arrG ⟨p.node, index, p.nxt, 2, p.active, p.heard⟩) 27 (0, 0)) := by rw [← hW3.out, heap_setCell]; simp [hx1, storeIn]
      have hy3 : W3.heap[B + 1]? = some (.cells #[.int .i64 0, .int .i64 0, .int .i64 0, .int .i64 0, .bool false, .int .i64 0] 27 (0, 0)) := by rw [← hW3.out]; exact hp_set_other hy1 (by show B ≠ B + 1; omega)
      have Hb3 : Hid (Below B w W3) := by show Below _ _ _; rw [← hW3.out]; exact Hb1.out.setCell (p := ⟨B, 3, none⟩) (Nat.le_refl _) _
      clear hx1 hy1
      go_upto_region 6 with fail
      rw [hW3.out]
      clear c3 f3
      have b0 := cell_n hx3 0 (v := .int .i64 p.node) rfl
      have b1 := cell_n hx3 1 (v := .int .i64 index) rfl
      have b2 := cell_n hx3 2 (v := .int .i64 p.nxt) rfl
      have b3 := cell_n hx3 3 (v := .int .i64 2) rfl
      have b4 := cell_n hx3 4 (v := .bool p.active) rfl
      have b5 := cell_n hx3 5 (v := .int .i64 p.heard) rfl
      have q0 := cell_n hy3 0 (v := .int .i64 0) rfl
      have q1 := cell_n hy3 1 (v := .int .i64 0) rfl
      have q2 := cell_n hy3 2 (v := .int .i64 0) rfl
      have q3 := cell_n hy3 3 (v := .int .i64 0) rfl
      have q4 := cell_n hy3 4 (v := .bool false) rfl
      have q5 := cell_n hy3 5 (v := .int .i64 0) rfl
      have g0 := free_n hy3 0
      have g1 := free_n hy3 1
      have g2 := free_n hy3 2
      have g3 := free_n hy3 3
      have g4 := free_n hy3 4
      have g5 := free_n hy3 5
      have HE9 := Lib.hid (setAll_at (xs := [.int .i64 0, .int .i64 0, .int .i64 0, .int .i64 0, .bool false, .int .i64 0]) hy3 [.int .i64 p.node, .int .i64 index, .int .i64 p.nxt, .int .i64 2, .bool p.active, .int .i64 p.heard] rfl)
      have HB9 := Lib.hid (setAll_below Hb3.out (Nat.le_succ B) [.int .i64 p.node, .int .i64 index, .int .i64 p.nxt, .int .i64 2, .bool p.active, .int .i64 p.heard])
      clear hx3 hy3
      go_wp2_with fail
      change bodyPost _ _ _ Exit.ret _ (setAll W3 (B + 1) [.int .i64 p.node, .int .i64 index, .int .i64 p.nxt, .int .i64 2, .bool p.active, .int .i64 p.heard])
      generalize setAll W3 (B + 1) [.int .i64 p.node, .int .i64 index, .int .i64 p.nxt, .int .i64 2, .bool p.active, .int .i64 p.heard] = W9 at HE9 HB9 ⊢
      clear q0 q1 q2 q3 q4 q5 g0 g1 g2 g3 g4 g5 b0 b1 b2 b3 b4 b5
      have e0 := cell_n HE9.out 0 (v := .int .i64 p.node) rfl
      have e1 := cell_n HE9.out 1 (v := .int .i64 index) rfl
      have e2 := cell_n HE9.out 2 (v := .int .i64 p.nxt) rfl
      have e3 := cell_n HE9.out 3 (v := .int .i64 2) rfl
      have e4 := cell_n HE9.out 4 (v := .bool p.active) rfl
      have e5 := cell_n HE9.out 5 (v := .int .i64 p.heard) rfl
      refine bodyPost_ret (by simp [results, Try.results40, go_sem, e0, e1, e2, e3, e4, e5]; rfl) rfl ?_
      rw [← HP.out]
      exact ⟨by rw [hres], HB9.out⟩
  · have t1 : decide (p.mtch < index) = false := decide_eq_false h1
    have hmax : max p.mtch index = p.mtch := by omega
    clear h1
    go_upto_region 3 with fail
    clear c1
    by_cases h2 : p.nxt ≤ p.mtch
    · have t2 : decide (p.nxt ≤ p.mtch) = true := decide_eq_true h2
      have hres : ackE p index = ⟨p.node, p.mtch, p.mtch + 1, 2, p.active, p.heard⟩ := by unfold ackE; rw [hmax, hwr p.mtch hm, show max p.nxt (p.mtch + 1) = p.mtch + 1 from by omega]
      have hr := hm
      clear h2
      have c1 := cell_n hx 1 (v := .int .i64 p.mtch) rfl
      have c2 := cell_n hx 2 (v := .int .i64 p.nxt) rfl
      have f2 := free_n hx 2
      obtain ⟨W2, hW2⟩ := hide (W.setCell ⟨B, 2, none⟩ (.int .i64 (p.mtch + 1)))
      have hx2 : W2.heap[B]? = some (.cells (arrG ⟨p.node, p.mtch, p.mtch + 1, p.state, p.active, p.heard⟩) 27 (0, 0)) := by rw [← hW2.out, heap_setCell]; simp [hx, storeIn]
      have hy2 : W2.heap[B + 1]? = some (.cells #[.int .i64 0, .int .i64 0, .int .i64 0, .int .i64 0, .bool false, .int .i64 0] 27 (0, 0)) := by rw [← hW2.out]; exact hp_set_other hy (by show B ≠ B + 1; omega)
      have Hb2 : Hid (Below B w W2) := by show Below _ _ _; rw [← hW2.out]; exact Hb.out.setCell (p := ⟨B, 2, none⟩) (Nat.le_refl _) _
      clear hx hy
      go_upto_region 5 with fail
      rw [hW2.out]
      clear c1 c2 f2
      have c3 := cell_n hx2 3 (v := .int .i64 p.state) rfl
      have f3 := free_n hx2 3
      obtain ⟨W3, hW3⟩ := hide (W2.setCell ⟨B, 3, none⟩ (.int .i64 2))
      have hx3 : W3.heap[B]? = some (.cells (arrG ⟨p.node, p.mtch, (p.mtch + 1), 2, p.active, p.heard⟩) 27 (0, 0)) := by rw [← hW3.out, heap_setCell]; simp [hx2, storeIn]
      have hy3 : W3.heap[B + 1]? = some (.cells #[.int .i64 0, .int .i64 0, .int .i64 0, .int .i64 0, .bool false, .int .i64 0] 27 (0, 0)) := by rw [← hW3.out]; exact hp_set_other hy2 (by show B ≠ B + 1; omega)
      have Hb3 : Hid (Below B w W3) := by show Below _ _ _; rw [← hW3.out]; exact Hb2.out.setCell (p := ⟨B, 3, none⟩) (Nat.le_refl _) _
      clear hx2 hy2
      go_upto_region 6 with fail
      rw [hW3.out]
      clear c3 f3
      have b0 := cell_n hx3 0 (v := .int .i64 p.node) rfl
      have b1 := cell_n hx3 1 (v := .int .i64 p.mtch) rfl
      have b2 := cell_n hx3 2 (v := .int .i64 (p.mtch + 1)) rfl
      have b3 := cell_n hx3 3 (v := .int .i64 2) rfl
      have b4 := cell_n hx3 4 (v := .bool p.active) rfl
      have b5 := cell_n hx3 5 (v := .int .i64 p.heard) rfl
      have q0 := cell_n hy3 0 (v := .int .i64 0) rfl
      have q1 := cell_n hy3 1 (v := .int .i64 0) rfl
      have q2 := cell_n hy3 2 (v := .int .i64 0) rfl
      have q3 := cell_n hy3 3 (v := .int .i64 0) rfl
      have q4 := cell_n hy3 4 (v := .bool false) rfl
      have q5 := cell_n hy3 5 (v := .int .i64 0) rfl
      have g0 := free_n hy3 0
      have g1 := free_n hy3 1
      have g2 := free_n hy3 2
      have g3 := free_n hy3 3
      have g4 := free_n hy3 4
      have g5 := free_n hy3 5
      have HE9 := Lib.hid (setAll_at (xs := [.int .i64 0, .int .i64 0, .int .i64 0, .int .i64 0, .bool false, .int .i64 0]) hy3 [.int .i64 p.node, .int .i64 p.mtch, .int .i64 (p.mtch + 1), .int .i64 2, .bool p.active, .int .i64 p.heard] rfl)
      have HB9 := Lib.hid (setAll_below Hb3.out (Nat.le_succ B) [.int .i64 p.node, .int .i64 p.mtch, .int .i64 (p.mtch + 1), .int .i64 2, .bool p.active, .int .i64 p.heard])
      clear hx3 hy3
      go_wp2_with fail
      change bodyPost _ _ _ Exit.ret _ (setAll W3 (B + 1) [.int .i64 p.node, .int .i64 p.mtch, .int .i64 (p.mtch + 1), .int .i64 2, .bool p.active, .int .i64 p.heard])
      generalize setAll W3 (B + 1) [.int .i64 p.node, .int .i64 p.mtch, .int .i64 (p.mtch + 1), .int .i64 2, .bool p.active, .int .i64 p.heard] = W9 at HE9 HB9 ⊢
      clear q0 q1 q2 q3 q4 q5 g0 g1 g2 g3 g4 g5 b0 b1 b2 b3 b4 b5
      have e0 := cell_n HE9.out 0 (v := .int .i64 p.node) rfl
      have e1 := cell_n HE9.out 1 (v := .int .i64 p.mtch) rfl
      have e2 := cell_n HE9.out 2 (v := .int .i64 (p.mtch + 1)) rfl
      have e3 := cell_n HE9.out 3 (v := .int .i64 2) rfl
      have e4 := cell_n HE9.out 4 (v := .bool p.active) rfl
      have e5 := cell_n HE9.out 5 (v := .int .i64 p.heard) rfl
      refine bodyPost_ret (by simp [results, Try.results40, go_sem, e0, e1, e2, e3, e4, e5]; rfl) rfl ?_
      rw [← HP.out]
      exact ⟨by rw [hres], HB9.out⟩
    · have t2 : decide (p.nxt ≤ p.mtch) = false := decide_eq_false h2
      have hres : ackE p index = ⟨p.node, p.mtch, p.nxt, 2, p.active, p.heard⟩ := by unfold ackE; rw [hmax, hwr p.mtch hm, show max p.nxt (p.mtch + 1) = p.nxt from by omega]
      clear h2
      have c1 := cell_n hx 1 (v := .int .i64 p.mtch) rfl
      have c2 := cell_n hx 2 (v := .int .i64 p.nxt) rfl
      go_upto_region 5 with fail
      clear c1 c2
      have c3 := cell_n hx 3 (v := .int .i64 p.state) rfl
      have f3 := free_n hx 3
      obtain ⟨W3, hW3⟩ := hide (W.setCell ⟨B, 3, none⟩ (.int .i64 2))
      have hx3 : W3.heap[B]? = some (.cells (arrG ⟨p.node, p.mtch, p.nxt, 2, p.active, p.heard⟩) 27 (0, 0)) := by rw [← hW3.out, heap_setCell]; simp [hx, storeIn]
      have hy3 : W3.heap[B + 1]? = some (.cells #[.int .i64 0, .int .i64 0, .int .i64 0, .int .i64 0, .bool false, .int .i64 0] 27 (0, 0)) := by rw [← hW3.out]; exact hp_set_other hy (by show B ≠ B + 1; omega)
      have Hb3 : Hid (Below B w W3) := by show Below _ _ _; rw [← hW3.out]; exact Hb.out.setCell (p := ⟨B, 3, none⟩) (Nat.le_refl _) _
      clear hx hy
      go_upto_region 6 with fail
      rw [hW3.out]
      clear c3 f3
      have b0 := cell_n hx3 0 (v := .int .i64 p.node) rfl
      have b1 := cell_n hx3 1 (v := .int .i64 p.mtch) rfl
      have b2 := cell_n hx3 2 (v := .int .i64 p.nxt) rfl
      have b3 := cell_n hx3 3 (v := .int .i64 2) rfl
      have b4 := cell_n hx3 4 (v := .bool p.active) rfl
      have b5 := cell_n hx3 5 (v := .int .i64 p.heard) rfl
      have q0 := cell_n hy3 0 (v := .int .i64 0) rfl
      have q1 := cell_n hy3 1 (v := .int .i64 0) rfl
      have q2 := cell_n hy3 2 (v := .int .i64 0) rfl
      have q3 := cell_n hy3 3 (v := .int .i64 0) rfl
      have q4 := cell_n hy3 4 (v := .bool false) rfl
      have q5 := cell_n hy3 5 (v := .int .i64 0) rfl
      have g0 := free_n hy3 0
      have g1 := free_n hy3 1
      have g2 := free_n hy3 2
      have g3 := free_n hy3 3
      have g4 := free_n hy3 4
      have g5 := free_n hy3 5
      have HE9 := Lib.hid (setAll_at (xs := [.int .i64 0, .int .i64 0, .int .i64 0, .int .i64 0, .bool false, .int .i64 0]) hy3 [.int .i64 p.node, .int .i64 p.mtch, .int .i64 p.nxt, .int .i64 2, .bool p.active, .int .i64 p.heard] rfl)
      have HB9 := Lib.hid (setAll_below Hb3.out (Nat.le_succ B) [.int .i64 p.node, .int .i64 p.mtch, .int .i64 p.nxt, .int .i64 2, .bool p.active, .int .i64 p.heard])
      clear hx3 hy3
      go_wp2_with fail
      change bodyPost _ _ _ Exit.ret _ (setAll W3 (B + 1) [.int .i64 p.node, .int .i64 p.mtch, .int .i64 p.nxt, .int .i64 2, .bool p.active, .int .i64 p.heard])
      generalize setAll W3 (B + 1) [.int .i64 p.node, .int .i64 p.mtch, .int .i64 p.nxt, .int .i64 2, .bool p.active, .int .i64 p.heard] = W9 at HE9 HB9 ⊢
      clear q0 q1 q2 q3 q4 q5 g0 g1 g2 g3 g4 g5 b0 b1 b2 b3 b4 b5
      have e0 := cell_n HE9.out 0 (v := .int .i64 p.node) rfl
      have e1 := cell_n HE9.out 1 (v := .int .i64 p.mtch) rfl
      have e2 := cell_n HE9.out 2 (v := .int .i64 p.nxt) rfl
      have e3 := cell_n HE9.out 3 (v := .int .i64 2) rfl
      have e4 := cell_n HE9.out 4 (v := .bool p.active) rfl
      have e5 := cell_n HE9.out 5 (v := .int .i64 p.heard) rfl
      refine bodyPost_ret (by simp [results, Try.results40, go_sem, e0, e1, e2, e3, e4, e5]; rfl) rfl ?_
      rw [← HP.out]
      exact ⟨by rw [hres], HB9.out⟩
end Go.Proofs.Ytgdmcbjlfnjhjaa

namespace Go.Proofs.Ytgdmcbjlfnjhjaa
open Go.RowKit Wm Mm
set_option linter.unusedVariables false
set_option linter.unusedSimpArgs false

def refuseE (p : ProgP) (index hint : Int) : ProgP × Bool :=
  if index ≤ p.mtch ∨ p.nxt ≤ index then (p, false) else (⟨p.node, p.mtch, max (p.mtch + 1) (min index (max hint 1)), 1, p.active, p.heard⟩, true)
set_option maxHeartbeats 2000000 in
theorem refuse_law (p : ProgP) (index hint : Int) (w : World) (hm : -9223372036854775808 ≤ p.mtch ∧ p.mtch ≤ 1099511627775) :
    Calls Try.prog 38 #[.agg (arrG p), .int .i64 index, .int .i64 hint] w fun e w' => e = .returned (.tuple #[.agg (arrG (refuseE p index hint).1), .bool (refuseE p index hint).2]) ∧ Below w.heap.size w w' := by
  obtain ⟨post, HP⟩ := hide (fun (e : Ending) (w' : World) => e = .returned (.tuple #[.agg (arrG (refuseE p index hint).1), .bool (refuseE p index hint).2]) ∧ Below w.heap.size w w')
  rw [HP.out]
  obtain ⟨W, hW⟩ := hide ((w.alloc (.cells (arrG p) 27)).alloc (.cells #[.int .i64 0, .int .i64 0, .int .i64 0, .int .i64 0, .bool false, .int .i64 0] 27))
  have hx : W.heap[w.heap.size]? = some (.cells (arrG p) 27 (0, 0)) := by rw [← hW.out]; exact (hp_past _ _ (by simp)).trans (hp_at _ _ rfl)
  have hy : W.heap[w.heap.size + 1]? = some (.cells #[.int .i64 0, .int .i64 0, .int .i64 0, .int .i64 0, .bool false, .int .i64 0] 27 (0, 0)) := by rw [← hW.out]; exact hp_at _ _ (by simp)
  have Hb : Hid (Below w.heap.size w W) := by show Below _ _ _; rw [← hW.out]; exact ((Below.refl _ _).alloc (Nat.le_refl _) _).alloc (by simp) _
  obtain ⟨B, hB⟩ := hide w.heap.size
  rw [hB.out] at hx hy Hb HP
  go_enter Try.func38, Try.ntmps38
  go_upto_region 1 with fail
  rw [hW.out, hB.out]
  have c1 := cell_n hx 1 (v := .int .i64 p.mtch) rfl
  have c2 := cell_n hx 2 (v := .int .i64 p.nxt) rfl
  by_cases h1 : index ≤ p.mtch
  · have t1 : decide (index ≤ p.mtch) = true := decide_eq_true h1
    have hres : refuseE p index hint = (p, false) := by unfold refuseE; rw [if_pos (Or.inl h1)]
    clear h1
    have b0 := cell_n hx 0 (v := .int .i64 p.node) rfl
    have b1 := cell_n hx 1 (v := .int .i64 p.mtch) rfl
    have b2 := cell_n hx 2 (v := .int .i64 p.nxt) rfl
    have b3 := cell_n hx 3 (v := .int .i64 p.state) rfl
    have b4 := cell_n hx 4 (v := .bool p.active) rfl
    have b5 := cell_n hx 5 (v := .int .i64 p.heard) rfl
    have q0 := cell_n hy 0 (v := .int .i64 0) rfl
    have q1 := cell_n hy 1 (v := .int .i64 0) rfl
    have q2 := cell_n hy 2 (v := .int .i64 0) rfl
    have q3 := cell_n hy 3 (v := .int .i64 0) rfl
    have q4 := cell_n hy 4 (v := .bool false) rfl
    have q5 := cell_n hy 5 (v := .int .i64 0) rfl
    have g0 := free_n hy 0
    have g1 := free_n hy 1
    have g2 := free_n hy 2
    have g3 := free_n hy 3
    have g4 := free_n hy 4
    have g5 := free_n hy 5
    have HE9 := Lib.hid (setAll_at (xs := [.int .i64 0, .int .i64 0, .int .i64 0, .int .i64 0, .bool false, .int .i64 0]) hy [.int .i64 p.node, .int .i64 p.mtch, .int .i64 p.nxt, .int .i64 p.state, .bool p.active, .int .i64 p.heard] rfl)
    have HB9 := Lib.hid (setAll_below Hb.out (Nat.le_succ B) [.int .i64 p.node, .int .i64 p.mtch, .int .i64 p.nxt, .int .i64 p.state, .bool p.active, .int .i64 p.heard])
    clear hx hy
    go_wp2_with fail
    change bodyPost _ _ _ Exit.ret _ (setAll W (B + 1) [.int .i64 p.node, .int .i64 p.mtch, .int .i64 p.nxt, .int .i64 p.state, .bool p.active, .int .i64 p.heard])
    generalize setAll W (B + 1) [.int .i64 p.node, .int .i64 p.mtch, .int .i64 p.nxt, .int .i64 p.state, .bool p.active, .int .i64 p.heard] = W9 at HE9 HB9 ⊢
    clear q0 q1 q2 q3 q4 q5 g0 g1 g2 g3 g4 g5 b0 b1 b2 b3 b4 b5
    have e0 := cell_n HE9.out 0 (v := .int .i64 p.node) rfl
    have e1 := cell_n HE9.out 1 (v := .int .i64 p.mtch) rfl
    have e2 := cell_n HE9.out 2 (v := .int .i64 p.nxt) rfl
    have e3 := cell_n HE9.out 3 (v := .int .i64 p.state) rfl
    have e4 := cell_n HE9.out 4 (v := .bool p.active) rfl
    have e5 := cell_n HE9.out 5 (v := .int .i64 p.heard) rfl
    refine bodyPost_ret (by simp [results, Try.results38, go_sem, e0, e1, e2, e3, e4, e5]; rfl) rfl ?_
    rw [← HP.out]
    exact ⟨by rw [hres], HB9.out⟩
  have t1 : decide (index ≤ p.mtch) = false := decide_eq_false h1
  by_cases h2 : p.nxt ≤ index
  · have t2 : decide (p.nxt ≤ index) = true := decide_eq_true h2
    have hres : refuseE p index hint = (p, false) := by unfold refuseE; rw [if_pos (Or.inr h2)]
    clear h1 h2
    have b0 := cell_n hx 0 (v := .int .i64 p.node) rfl
    have b1 := cell_n hx 1 (v := .int .i64 p.mtch) rfl
    have b2 := cell_n hx 2 (v := .int .i64 p.nxt) rfl
    have b3 := cell_n hx 3 (v := .int .i64 p.state) rfl
    have b4 := cell_n hx 4 (v := .bool p.active) rfl
    have b5 := cell_n hx 5 (v := .int .i64 p.heard) rfl
    have q0 := cell_n hy 0 (v := .int .i64 0) rfl
    have q1 := cell_n hy 1 (v := .int .i64 0) rfl
    have q2 := cell_n hy 2 (v := .int .i64 0) rfl
    have q3 := cell_n hy 3 (v := .int .i64 0) rfl
    have q4 := cell_n hy 4 (v := .bool false) rfl
    have q5 := cell_n hy 5 (v := .int .i64 0) rfl
    have g0 := free_n hy 0
    have g1 := free_n hy 1
    have g2 := free_n hy 2
    have g3 := free_n hy 3
    have g4 := free_n hy 4
    have g5 := free_n hy 5
    have HE9 := Lib.hid (setAll_at (xs := [.int .i64 0, .int .i64 0, .int .i64 0, .int .i64 0, .bool false, .int .i64 0]) hy [.int .i64 p.node, .int .i64 p.mtch, .int .i64 p.nxt, .int .i64 p.state, .bool p.active, .int .i64 p.heard] rfl)
    have HB9 := Lib.hid (setAll_below Hb.out (Nat.le_succ B) [.int .i64 p.node, .int .i64 p.mtch, .int .i64 p.nxt, .int .i64 p.state, .bool p.active, .int .i64 p.heard])
    clear hx hy
    go_wp2_with fail
    change bodyPost _ _ _ Exit.ret _ (setAll W (B + 1) [.int .i64 p.node, .int .i64 p.mtch, .int .i64 p.nxt, .int .i64 p.state, .bool p.active, .int .i64 p.heard])
    generalize setAll W (B + 1) [.int .i64 p.node, .int .i64 p.mtch, .int .i64 p.nxt, .int .i64 p.state, .bool p.active, .int .i64 p.heard] = W9 at HE9 HB9 ⊢
    clear q0 q1 q2 q3 q4 q5 g0 g1 g2 g3 g4 g5 b0 b1 b2 b3 b4 b5
    have e0 := cell_n HE9.out 0 (v := .int .i64 p.node) rfl
    have e1 := cell_n HE9.out 1 (v := .int .i64 p.mtch) rfl
    have e2 := cell_n HE9.out 2 (v := .int .i64 p.nxt) rfl
    have e3 := cell_n HE9.out 3 (v := .int .i64 p.state) rfl
    have e4 := cell_n HE9.out 4 (v := .bool p.active) rfl
    have e5 := cell_n HE9.out 5 (v := .int .i64 p.heard) rfl
    refine bodyPost_ret (by simp [results, Try.results38, go_sem, e0, e1, e2, e3, e4, e5]; rfl) rfl ?_
    rw [← HP.out]
    exact ⟨by rw [hres], HB9.out⟩
  have t2 : decide (p.nxt ≤ index) = false := decide_eq_false h2
  have hwr : wrap64 (p.mtch + 1) = p.mtch + 1 := IntWalk.wrap64_in _ (by omega)
  obtain ⟨n, hn⟩ := hide (max (p.mtch + 1) (min index (max hint 1)))
  have hres : refuseE p index hint = (⟨p.node, p.mtch, n, 1, p.active, p.heard⟩, true) := by unfold refuseE; rw [if_neg (fun h => h.elim h1 h2), hn.out]
  have f2 := free_n hx 2
  obtain ⟨W1, hW1⟩ := hide (W.setCell ⟨B, 2, none⟩ (.int .i64 n))
  have hx1 : W1.heap[B]? = some (.cells (arrG ⟨p.node, p.mtch, n, p.state, p.active, p.heard⟩) 27 (0, 0)) := by rw [← hW1.out, heap_setCell]; simp [hx, storeIn]
  have hy1 : W1.heap[B + 1]? = some (.cells #[.int .i64 0, .int .i64 0, .int .i64 0, .int .i64 0, .bool false, .int .i64 0] 27 (0, 0)) := by rw [← hW1.out]; exact hp_set_other hy (by show B ≠ B + 1; omega)
  have Hb1 : Hid (Below B w W1) := by show Below _ _ _; rw [← hW1.out]; exact Hb.out.setCell (p := ⟨B, 2, none⟩) (Nat.le_refl _) _
  clear hx hy h1 h2
  go_upto_region 4 with fail
  rw [hn.out, hW1.out]
  clear c1 c2 f2
  have c3 := cell_n hx1 3 (v := .int .i64 p.state) rfl
  have f3 := free_n hx1 3
  obtain ⟨W2, hW2⟩ := hide (W1.setCell ⟨B, 3, none⟩ (.int .i64 1))
  have hx2 : W2.heap[B]? = some (.cells (arrG ⟨p.node, p.mtch, n, 1, p.active, p.heard⟩) 27 (0, 0)) := by rw [← hW2.out, heap_setCell]; simp [hx1, storeIn]
  have hy2 : W2.heap[B + 1]? = some (.cells #[.int .i64 0, .int .i64 0, .int .i64 0, .int .i64 0, .bool false, .int .i64 0] 27 (0, 0)) := by rw [← hW2.out]; exact hp_set_other hy1 (by show B ≠ B + 1; omega)
  have Hb2 : Hid (Below B w W2) := by show Below _ _ _; rw [← hW2.out]; exact Hb1.out.setCell (p := ⟨B, 3, none⟩) (Nat.le_refl _) _
  clear hx1 hy1
  go_upto_region 5 with fail
  rw [hW2.out]
  clear c3 f3
  have b0 := cell_n hx2 0 (v := .int .i64 p.node) rfl
  have b1 := cell_n hx2 1 (v := .int .i64 p.mtch) rfl
  have b2 := cell_n hx2 2 (v := .int .i64 n) rfl
  have b3 := cell_n hx2 3 (v := .int .i64 1) rfl
  have b4 := cell_n hx2 4 (v := .bool p.active) rfl
  have b5 := cell_n hx2 5 (v := .int .i64 p.heard) rfl
  have q0 := cell_n hy2 0 (v := .int .i64 0) rfl
  have q1 := cell_n hy2 1 (v := .int .i64 0) rfl
  have q2 := cell_n hy2 2 (v := .int .i64 0) rfl
  have q3 := cell_n hy2 3 (v := .int .i64 0) rfl
  have q4 := cell_n hy2 4 (v := .bool false) rfl
  have q5 := cell_n hy2 5 (v := .int .i64 0) rfl
  have g0 := free_n hy2 0
  have g1 := free_n hy2 1
  have g2 := free_n hy2 2
  have g3 := free_n hy2 3
  have g4 := free_n hy2 4
  have g5 := free_n hy2 5
  have HE9 := Lib.hid (setAll_at (xs := [.int .i64 0, .int .i64 0, .int .i64 0, .int .i64 0, .bool false, .int .i64 0]) hy2 [.int .i64 p.node, .int .i64 p.mtch, .int .i64 n, .int .i64 1, .bool p.active, .int .i64 p.heard] rfl)
  have HB9 := Lib.hid (setAll_below Hb2.out (Nat.le_succ B) [.int .i64 p.node, .int .i64 p.mtch, .int .i64 n, .int .i64 1, .bool p.active, .int .i64 p.heard])
  clear hx2 hy2
  go_wp2_with fail
  change bodyPost _ _ _ Exit.ret _ (setAll W2 (B + 1) [.int .i64 p.node, .int .i64 p.mtch, .int .i64 n, .int .i64 1, .bool p.active, .int .i64 p.heard])
  generalize setAll W2 (B + 1) [.int .i64 p.node, .int .i64 p.mtch, .int .i64 n, .int .i64 1, .bool p.active, .int .i64 p.heard] = W9 at HE9 HB9 ⊢
  clear q0 q1 q2 q3 q4 q5 g0 g1 g2 g3 g4 g5 b0 b1 b2 b3 b4 b5
  have e0 := cell_n HE9.out 0 (v := .int .i64 p.node) rfl
  have e1 := cell_n HE9.out 1 (v := .int .i64 p.mtch) rfl
  have e2 := cell_n HE9.out 2 (v := .int .i64 n) rfl
  have e3 := cell_n HE9.out 3 (v := .int .i64 1) rfl
  have e4 := cell_n HE9.out 4 (v := .bool p.active) rfl
  have e5 := cell_n HE9.out 5 (v := .int .i64 p.heard) rfl
  refine bodyPost_ret (by simp [results, Try.results38, go_sem, e0, e1, e2, e3, e4, e5]; rfl) rfl ?_
  rw [← HP.out]
  exact ⟨by rw [hres], HB9.out⟩
end Go.Proofs.Ytgdmcbjlfnjhjaa

namespace Go.Proofs.Ytgdmcbjlfnjhjaa
open Go.RowKit Wm Mm
set_option linter.unusedVariables false
set_option linter.unusedSimpArgs false

set_option maxHeartbeats 4000000 in
theorem refRefuse_law (p : ProgP) (index hint : Int) (w : World) (hm : -9223372036854775808 ≤ p.mtch ∧ p.mtch ≤ 1099511627775) :
    Calls Try.prog 39 #[.agg (arrG p), .int .i64 index, .int .i64 hint] w fun e w' => e = .returned (.tuple #[.agg (arrG (refuseE p index hint).1), .bool (refuseE p index hint).2]) ∧ Below w.heap.size w w' := by
  obtain ⟨post, HP⟩ := hide (fun (e : Ending) (w' : World) => e = .returned (.tuple #[.agg (arrG (refuseE p index hint).1), .bool (refuseE p index hint).2]) ∧ Below w.heap.size w w')
  rw [HP.out]
  obtain ⟨W, hW⟩ := hide ((w.alloc (.cells (arrG p) 27)).alloc (.cells #[.int .i64 0, .int .i64 0, .int .i64 0, .int .i64 0, .bool false, .int .i64 0] 27))
  have hx : W.heap[w.heap.size]? = some (.cells (arrG p) 27 (0, 0)) := by rw [← hW.out]; exact (hp_past _ _ (by simp)).trans (hp_at _ _ rfl)
  have hy : W.heap[w.heap.size + 1]? = some (.cells #[.int .i64 0, .int .i64 0, .int .i64 0, .int .i64 0, .bool false, .int .i64 0] 27 (0, 0)) := by rw [← hW.out]; exact hp_at _ _ (by simp)
  have Hb : Hid (Below w.heap.size w W) := by show Below _ _ _; rw [← hW.out]; exact ((Below.refl _ _).alloc (Nat.le_refl _) _).alloc (by simp) _
  obtain ⟨B, hB⟩ := hide w.heap.size
  rw [hB.out] at hx hy Hb HP
  go_enter Try.func39, Try.ntmps39
  go_upto_region 1 with fail
  rw [hW.out, hB.out]
  have c1 := cell_n hx 1 (v := .int .i64 p.mtch) rfl
  have c2 := cell_n hx 2 (v := .int .i64 p.nxt) rfl
  by_cases h1 : index ≤ p.mtch
  · have t1 : decide (index ≤ p.mtch) = true := decide_eq_true h1
    have hres : refuseE p index hint = (p, false) := by unfold refuseE; rw [if_pos (Or.inl h1)]
    clear h1
    have b0 := cell_n hx 0 (v := .int .i64 p.node) rfl
    have b1 := cell_n hx 1 (v := .int .i64 p.mtch) rfl
    have b2 := cell_n hx 2 (v := .int .i64 p.nxt) rfl
    have b3 := cell_n hx 3 (v := .int .i64 p.state) rfl
    have b4 := cell_n hx 4 (v := .bool p.active) rfl
    have b5 := cell_n hx 5 (v := .int .i64 p.heard) rfl
    have q0 := cell_n hy 0 (v := .int .i64 0) rfl
    have q1 := cell_n hy 1 (v := .int .i64 0) rfl
    have q2 := cell_n hy 2 (v := .int .i64 0) rfl
    have q3 := cell_n hy 3 (v := .int .i64 0) rfl
    have q4 := cell_n hy 4 (v := .bool false) rfl
    have q5 := cell_n hy 5 (v := .int .i64 0) rfl
    have g0 := free_n hy 0
    have g1 := free_n hy 1
    have g2 := free_n hy 2
    have g3 := free_n hy 3
    have g4 := free_n hy 4
    have g5 := free_n hy 5
    have HE9 := Lib.hid (setAll_at (xs := [.int .i64 0, .int .i64 0, .int .i64 0, .int .i64 0, .bool false, .int .i64 0]) hy [.int .i64 p.node, .int .i64 p.mtch, .int .i64 p.nxt, .int .i64 p.state, .bool p.active, .int .i64 p.heard] rfl)
    have HB9 := Lib.hid (setAll_below Hb.out (Nat.le_succ B) [.int .i64 p.node, .int .i64 p.mtch, .int .i64 p.nxt, .int .i64 p.state, .bool p.active, .int .i64 p.heard])
    clear hx hy
    go_wp2_with fail
    change bodyPost _ _ _ Exit.ret _ (setAll W (B + 1) [.int .i64 p.node, .int .i64 p.mtch, .int .i64 p.nxt, .int .i64 p.state, .bool p.active, .int .i64 p.heard])
    generalize setAll W (B + 1) [.int .i64 p.node, .int .i64 p.mtch, .int .i64 p.nxt, .int .i64 p.state, .bool p.active, .int .i64 p.heard] = W9 at HE9 HB9 ⊢
    clear q0 q1 q2 q3 q4 q5 g0 g1 g2 g3 g4 g5 b0 b1 b2 b3 b4 b5
    have e0 := cell_n HE9.out 0 (v := .int .i64 p.node) rfl
    have e1 := cell_n HE9.out 1 (v := .int .i64 p.mtch) rfl
    have e2 := cell_n HE9.out 2 (v := .int .i64 p.nxt) rfl
    have e3 := cell_n HE9.out 3 (v := .int .i64 p.state) rfl
    have e4 := cell_n HE9.out 4 (v := .bool p.active) rfl
    have e5 := cell_n HE9.out 5 (v := .int .i64 p.heard) rfl
    refine bodyPost_ret (by simp [results, Try.results39, go_sem, e0, e1, e2, e3, e4, e5]; rfl) rfl ?_
    rw [← HP.out]
    exact ⟨by rw [hres], HB9.out⟩
  have t1 : decide (index ≤ p.mtch) = false := decide_eq_false h1
  by_cases h2 : p.nxt ≤ index
  · have t2 : decide (p.nxt ≤ index) = true := decide_eq_true h2
    have hres : refuseE p index hint = (p, false) := by unfold refuseE; rw [if_pos (Or.inr h2)]
    clear h1 h2
    have b0 := cell_n hx 0 (v := .int .i64 p.node) rfl
    have b1 := cell_n hx 1 (v := .int .i64 p.mtch) rfl
    have b2 := cell_n hx 2 (v := .int .i64 p.nxt) rfl
    have b3 := cell_n hx 3 (v := .int .i64 p.state) rfl
    have b4 := cell_n hx 4 (v := .bool p.active) rfl
    have b5 := cell_n hx 5 (v := .int .i64 p.heard) rfl
    have q0 := cell_n hy 0 (v := .int .i64 0) rfl
    have q1 := cell_n hy 1 (v := .int .i64 0) rfl
    have q2 := cell_n hy 2 (v := .int .i64 0) rfl
    have q3 := cell_n hy 3 (v := .int .i64 0) rfl
    have q4 := cell_n hy 4 (v := .bool false) rfl
    have q5 := cell_n hy 5 (v := .int .i64 0) rfl
    have g0 := free_n hy 0
    have g1 := free_n hy 1
    have g2 := free_n hy 2
    have g3 := free_n hy 3
    have g4 := free_n hy 4
    have g5 := free_n hy 5
    have HE9 := Lib.hid (setAll_at (xs := [.int .i64 0, .int .i64 0, .int .i64 0, .int .i64 0, .bool false, .int .i64 0]) hy [.int .i64 p.node, .int .i64 p.mtch, .int .i64 p.nxt, .int .i64 p.state, .bool p.active, .int .i64 p.heard] rfl)
    have HB9 := Lib.hid (setAll_below Hb.out (Nat.le_succ B) [.int .i64 p.node, .int .i64 p.mtch, .int .i64 p.nxt, .int .i64 p.state, .bool p.active, .int .i64 p.heard])
    clear hx hy
    go_wp2_with fail
    change bodyPost _ _ _ Exit.ret _ (setAll W (B + 1) [.int .i64 p.node, .int .i64 p.mtch, .int .i64 p.nxt, .int .i64 p.state, .bool p.active, .int .i64 p.heard])
    generalize setAll W (B + 1) [.int .i64 p.node, .int .i64 p.mtch, .int .i64 p.nxt, .int .i64 p.state, .bool p.active, .int .i64 p.heard] = W9 at HE9 HB9 ⊢
    clear q0 q1 q2 q3 q4 q5 g0 g1 g2 g3 g4 g5 b0 b1 b2 b3 b4 b5
    have e0 := cell_n HE9.out 0 (v := .int .i64 p.node) rfl
    have e1 := cell_n HE9.out 1 (v := .int .i64 p.mtch) rfl
    have e2 := cell_n HE9.out 2 (v := .int .i64 p.nxt) rfl
    have e3 := cell_n HE9.out 3 (v := .int .i64 p.state) rfl
    have e4 := cell_n HE9.out 4 (v := .bool p.active) rfl
    have e5 := cell_n HE9.out 5 (v := .int .i64 p.heard) rfl
    refine bodyPost_ret (by simp [results, Try.results39, go_sem, e0, e1, e2, e3, e4, e5]; rfl) rfl ?_
    rw [← HP.out]
    exact ⟨by rw [hres], HB9.out⟩
  have t2 : decide (p.nxt ≤ index) = false := decide_eq_false h2
  have hwr : wrap64 (p.mtch + 1) = p.mtch + 1 := IntWalk.wrap64_in _ (by omega)
  by_cases h3 : hint < 1
  · have t3 : decide (hint < 1) = true := decide_eq_true h3
    by_cases h4 : 1 < index
    · have t4 : decide (1 < index) = true := decide_eq_true h4
      by_cases h5 : 1 ≤ p.mtch
      · have t5 : decide (1 ≤ p.mtch) = true := decide_eq_true h5
        have hres : refuseE p index hint = (⟨p.node, p.mtch, (p.mtch + 1), 1, p.active, p.heard⟩, true) := by unfold refuseE; rw [if_neg (fun h => h.elim h1 h2), show max (p.mtch + 1) (min index (max hint 1)) = (p.mtch + 1) from by omega]
        have hr := hm
        clear h1 h2 h3 h4 h5
        have f2 := free_n hx 2
        obtain ⟨W1, hW1⟩ := hide (W.setCell ⟨B, 2, none⟩ (.int .i64 (p.mtch + 1)))
        have hx1 : W1.heap[B]? = some (.cells (arrG ⟨p.node, p.mtch, (p.mtch + 1), p.state, p.active, p.heard⟩) 27 (0, 0)) := by rw [← hW1.out, heap_setCell]; simp [hx, storeIn]
        have hy1 : W1.heap[B + 1]? = some (.cells #[.int .i64 0, .int .i64 0, .int .i64 0, .int .i64 0, .bool false, .int .i64 0] 27 (0, 0)) := by rw [← hW1.out]; exact hp_set_other hy (by show B ≠ B + 1; omega)
        have Hb1 : Hid (Below B w W1) := by show Below _ _ _; rw [← hW1.out]; exact Hb.out.setCell (p := ⟨B, 2, none⟩) (Nat.le_refl _) _
        clear hx hy
        go_upto_region 11 with fail
        rw [hW1.out]
        clear c1 c2 f2
        have c3 := cell_n hx1 3 (v := .int .i64 p.state) rfl
        have f3 := free_n hx1 3
        obtain ⟨W2, hW2⟩ := hide (W1.setCell ⟨B, 3, none⟩ (.int .i64 1))
        have hx2 : W2.heap[B]? = some (.cells (arrG ⟨p.node, p.mtch, (p.mtch + 1), 1, p.active, p.heard⟩) 27 (0, 0)) := by rw [← hW2.out, heap_setCell]; simp [hx1, storeIn]
        have hy2 : W2.heap[B + 1]? = some (.cells #[.int .i64 0, .int .i64 0, .int .i64 0, .int .i64 0, .bool false, .int .i64 0] 27 (0, 0)) := by rw [← hW2.out]; exact hp_set_other hy1 (by show B ≠ B + 1; omega)
        have Hb2 : Hid (Below B w W2) := by show Below _ _ _; rw [← hW2.out]; exact Hb1.out.setCell (p := ⟨B, 3, none⟩) (Nat.le_refl _) _
        clear hx1 hy1
        go_upto_region 12 with fail
        rw [hW2.out]
        clear c3 f3
        have b0 := cell_n hx2 0 (v := .int .i64 p.node) rfl
        have b1 := cell_n hx2 1 (v := .int .i64 p.mtch) rfl
        have b2 := cell_n hx2 2 (v := .int .i64 (p.mtch + 1)) rfl
        have b3 := cell_n hx2 3 (v := .int .i64 1) rfl
        have b4 := cell_n hx2 4 (v := .bool p.active) rfl
        have b5 := cell_n hx2 5 (v := .int .i64 p.heard) rfl
        have q0 := cell_n hy2 0 (v := .int .i64 0) rfl
        have q1 := cell_n hy2 1 (v := .int .i64 0) rfl
        have q2 := cell_n hy2 2 (v := .int .i64 0) rfl
        have q3 := cell_n hy2 3 (v := .int .i64 0) rfl
        have q4 := cell_n hy2 4 (v := .bool false) rfl
        have q5 := cell_n hy2 5 (v := .int .i64 0) rfl
        have g0 := free_n hy2 0
        have g1 := free_n hy2 1
        have g2 := free_n hy2 2
        have g3 := free_n hy2 3
        have g4 := free_n hy2 4
        have g5 := free_n hy2 5
        have HE9 := Lib.hid (setAll_at (xs := [.int .i64 0, .int .i64 0, .int .i64 0, .int .i64 0, .bool false, .int .i64 0]) hy2 [.int .i64 p.node, .int .i64 p.mtch, .int .i64 (p.mtch + 1), .int .i64 1, .bool p.active, .int .i64 p.heard] rfl)
        have HB9 := Lib.hid (setAll_below Hb2.out (Nat.le_succ B) [.int .i64 p.node, .int .i64 p.mtch, .int .i64 (p.mtch + 1), .int .i64 1, .bool p.active, .int .i64 p.heard])
        clear hx2 hy2
        go_wp2_with fail
        change bodyPost _ _ _ Exit.ret _ (setAll W2 (B + 1) [.int .i64 p.node, .int .i64 p.mtch, .int .i64 (p.mtch + 1), .int .i64 1, .bool p.active, .int .i64 p.heard])
        generalize setAll W2 (B + 1) [.int .i64 p.node, .int .i64 p.mtch, .int .i64 (p.mtch + 1), .int .i64 1, .bool p.active, .int .i64 p.heard] = W9 at HE9 HB9 ⊢
        clear q0 q1 q2 q3 q4 q5 g0 g1 g2 g3 g4 g5 b0 b1 b2 b3 b4 b5
        have e0 := cell_n HE9.out 0 (v := .int .i64 p.node) rfl
        have e1 := cell_n HE9.out 1 (v := .int .i64 p.mtch) rfl
        have e2 := cell_n HE9.out 2 (v := .int .i64 (p.mtch + 1)) rfl
        have e3 := cell_n HE9.out 3 (v := .int .i64 1) rfl
        have e4 := cell_n HE9.out 4 (v := .bool p.active) rfl
        have e5 := cell_n HE9.out 5 (v := .int .i64 p.heard) rfl
        refine bodyPost_ret (by simp [results, Try.results39, go_sem, e0, e1, e2, e3, e4, e5]; rfl) rfl ?_
        rw [← HP.out]
        exact ⟨by rw [hres], HB9.out⟩
      · have t5 : decide (1 ≤ p.mtch) = false := decide_eq_false h5
        have hres : refuseE p index hint = (⟨p.node, p.mtch, 1, 1, p.active, p.heard⟩, true) := by unfold refuseE; rw [if_neg (fun h => h.elim h1 h2), show max (p.mtch + 1) (min index (max hint 1)) = 1 from by omega]
        have hr := hm
        clear h1 h2 h3 h4 h5
        have f2 := free_n hx 2
        obtain ⟨W1, hW1⟩ := hide (W.setCell ⟨B, 2, none⟩ (.int .i64 1))
        have hx1 : W1.heap[B]? = some (.cells (arrG ⟨p.node, p.mtch, 1, p.state, p.active, p.heard⟩) 27 (0, 0)) := by rw [← hW1.out, heap_setCell]; simp [hx, storeIn]
        have hy1 : W1.heap[B + 1]? = some (.cells #[.int .i64 0, .int .i64 0, .int .i64 0, .int .i64 0, .bool false, .int .i64 0] 27 (0, 0)) := by rw [← hW1.out]; exact hp_set_other hy (by show B ≠ B + 1; omega)
        have Hb1 : Hid (Below B w W1) := by show Below _ _ _; rw [← hW1.out]; exact Hb.out.setCell (p := ⟨B, 2, none⟩) (Nat.le_refl _) _
        clear hx hy
        go_upto_region 11 with fail
        rw [hW1.out]
        clear c1 c2 f2
        have c3 := cell_n hx1 3 (v := .int .i64 p.state) rfl
        have f3 := free_n hx1 3
        obtain ⟨W2, hW2⟩ := hide (W1.setCell ⟨B, 3, none⟩ (.int .i64 1))
        have hx2 : W2.heap[B]? = some (.cells (arrG ⟨p.node, p.mtch, 1, 1, p.active, p.heard⟩) 27 (0, 0)) := by rw [← hW2.out, heap_setCell]; simp [hx1, storeIn]
        have hy2 : W2.heap[B + 1]? = some (.cells #[.int .i64 0, .int .i64 0, .int .i64 0, .int .i64 0, .bool false, .int .i64 0] 27 (0, 0)) := by rw [← hW2.out]; exact hp_set_other hy1 (by show B ≠ B + 1; omega)
        have Hb2 : Hid (Below B w W2) := by show Below _ _ _; rw [← hW2.out]; exact Hb1.out.setCell (p := ⟨B, 3, none⟩) (Nat.le_refl _) _
        clear hx1 hy1
        go_upto_region 12 with fail
        rw [hW2.out]
        clear c3 f3
        have b0 := cell_n hx2 0 (v := .int .i64 p.node) rfl
        have b1 := cell_n hx2 1 (v := .int .i64 p.mtch) rfl
        have b2 := cell_n hx2 2 (v := .int .i64 1) rfl
        have b3 := cell_n hx2 3 (v := .int .i64 1) rfl
        have b4 := cell_n hx2 4 (v := .bool p.active) rfl
        have b5 := cell_n hx2 5 (v := .int .i64 p.heard) rfl
        have q0 := cell_n hy2 0 (v := .int .i64 0) rfl
        have q1 := cell_n hy2 1 (v := .int .i64 0) rfl
        have q2 := cell_n hy2 2 (v := .int .i64 0) rfl
        have q3 := cell_n hy2 3 (v := .int .i64 0) rfl
        have q4 := cell_n hy2 4 (v := .bool false) rfl
        have q5 := cell_n hy2 5 (v := .int .i64 0) rfl
        have g0 := free_n hy2 0
        have g1 := free_n hy2 1
        have g2 := free_n hy2 2
        have g3 := free_n hy2 3
        have g4 := free_n hy2 4
        have g5 := free_n hy2 5
        have HE9 := Lib.hid (setAll_at (xs := [.int .i64 0, .int .i64 0, .int .i64 0, .int .i64 0, .bool false, .int .i64 0]) hy2 [.int .i64 p.node, .int .i64 p.mtch, .int .i64 1, .int .i64 1, .bool p.active, .int .i64 p.heard] rfl)
        have HB9 := Lib.hid (setAll_below Hb2.out (Nat.le_succ B) [.int .i64 p.node, .int .i64 p.mtch, .int .i64 1, .int .i64 1, .bool p.active, .int .i64 p.heard])
        clear hx2 hy2
        go_wp2_with fail
        change bodyPost _ _ _ Exit.ret _ (setAll W2 (B + 1) [.int .i64 p.node, .int .i64 p.mtch, .int .i64 1, .int .i64 1, .bool p.active, .int .i64 p.heard])
        generalize setAll W2 (B + 1) [.int .i64 p.node, .int .i64 p.mtch, .int .i64 1, .int .i64 1, .bool p.active, .int .i64 p.heard] = W9 at HE9 HB9 ⊢
        clear q0 q1 q2 q3 q4 q5 g0 g1 g2 g3 g4 g5 b0 b1 b2 b3 b4 b5
        have e0 := cell_n HE9.out 0 (v := .int .i64 p.node) rfl
        have e1 := cell_n HE9.out 1 (v := .int .i64 p.mtch) rfl
        have e2 := cell_n HE9.out 2 (v := .int .i64 1) rfl
        have e3 := cell_n HE9.out 3 (v := .int .i64 1) rfl
        have e4 := cell_n HE9.out 4 (v := .bool p.active) rfl
        have e5 := cell_n HE9.out 5 (v := .int .i64 p.heard) rfl
        refine bodyPost_ret (by simp [results, Try.results39, go_sem, e0, e1, e2, e3, e4, e5]; rfl) rfl ?_
        rw [← HP.out]
        exact ⟨by rw [hres], HB9.out⟩
    · have t4 : decide (1 < index) = false := decide_eq_false h4
      have h5 : ¬ index ≤ p.mtch := h1
      · have t5 : decide (index ≤ p.mtch) = false := decide_eq_false h5
        have hres : refuseE p index hint = (⟨p.node, p.mtch, index, 1, p.active, p.heard⟩, true) := by unfold refuseE; rw [if_neg (fun h => h.elim h1 h2), show max (p.mtch + 1) (min index (max hint 1)) = index from by omega]
        have hr := hm
        clear h1 h2 h3 h4 h5
        have f2 := free_n hx 2
        obtain ⟨W1, hW1⟩ := hide (W.setCell ⟨B, 2, none⟩ (.int .i64 index))
        have hx1 : W1.heap[B]? = some (.cells (arrG ⟨p.node, p.mtch, index, p.state, p.active, p.heard⟩) 27 (0, 0)) := by rw [← hW1.out, heap_setCell]; simp [hx, storeIn]
        have hy1 : W1.heap[B + 1]? = some (.cells #[.int .i64 0, .int .i64 0, .int .i64 0, .int .i64 0, .bool false, .int .i64 0] 27 (0, 0)) := by rw [← hW1.out]; exact hp_set_other hy (by show B ≠ B + 1; omega)
        have Hb1 : Hid (Below B w W1) := by show Below _ _ _; rw [← hW1.out]; exact Hb.out.setCell (p := ⟨B, 2, none⟩) (Nat.le_refl _) _
        clear hx hy
        go_upto_region 11 with fail
        rw [hW1.out]
        clear c1 c2 f2
        have c3 := cell_n hx1 3 (v := .int .i64 p.state) rfl
        have f3 := free_n hx1 3
        obtain ⟨W2, hW2⟩ := hide (W1.setCell ⟨B, 3, none⟩ (.int .i64 1))
        have hx2 : W2.heap[B]? = some (.cells (arrG ⟨p.node, p.mtch, index, 1, p.active, p.heard⟩) 27 (0, 0)) := by rw [← hW2.out, heap_setCell]; simp [hx1, storeIn]
        have hy2 : W2.heap[B + 1]? = some (.cells #[.int .i64 0, .int .i64 0, .int .i64 0, .int .i64 0, .bool false, .int .i64 0] 27 (0, 0)) := by rw [← hW2.out]; exact hp_set_other hy1 (by show B ≠ B + 1; omega)
        have Hb2 : Hid (Below B w W2) := by show Below _ _ _; rw [← hW2.out]; exact Hb1.out.setCell (p := ⟨B, 3, none⟩) (Nat.le_refl _) _
        clear hx1 hy1
        go_upto_region 12 with fail
        rw [hW2.out]
        clear c3 f3
        have b0 := cell_n hx2 0 (v := .int .i64 p.node) rfl
        have b1 := cell_n hx2 1 (v := .int .i64 p.mtch) rfl
        have b2 := cell_n hx2 2 (v := .int .i64 index) rfl
        have b3 := cell_n hx2 3 (v := .int .i64 1) rfl
        have b4 := cell_n hx2 4 (v := .bool p.active) rfl
        have b5 := cell_n hx2 5 (v := .int .i64 p.heard) rfl
        have q0 := cell_n hy2 0 (v := .int .i64 0) rfl
        have q1 := cell_n hy2 1 (v := .int .i64 0) rfl
        have q2 := cell_n hy2 2 (v := .int .i64 0) rfl
        have q3 := cell_n hy2 3 (v := .int .i64 0) rfl
        have q4 := cell_n hy2 4 (v := .bool false) rfl
        have q5 := cell_n hy2 5 (v := .int .i64 0) rfl
        have g0 := free_n hy2 0
        have g1 := free_n hy2 1
        have g2 := free_n hy2 2
        have g3 := free_n hy2 3
        have g4 := free_n hy2 4
        have g5 := free_n hy2 5
        have HE9 := Lib.hid (setAll_at (xs := [.int .i64 0, .int .i64 0, .int .i64 0, .int .i64 0, .bool false, .int .i64 0]) hy2 [.int .i64 p.node, .int .i64 p.mtch, .int .i64 index, .int .i64 1, .bool p.active, .int .i64 p.heard] rfl)
        have HB9 := Lib.hid (setAll_below Hb2.out (Nat.le_succ B) [.int .i64 p.node, .int .i64 p.mtch, .int .i64 index, .int .i64 1, .bool p.active, .int .i64 p.heard])
        clear hx2 hy2
        go_wp2_with fail
        change bodyPost _ _ _ Exit.ret _ (setAll W2 (B + 1) [.int .i64 p.node, .int .i64 p.mtch, .int .i64 index, .int .i64 1, .bool p.active, .int .i64 p.heard])
        generalize setAll W2 (B + 1) [.int .i64 p.node, .int .i64 p.mtch, .int .i64 index, .int .i64 1, .bool p.active, .int .i64 p.heard] = W9 at HE9 HB9 ⊢
        clear q0 q1 q2 q3 q4 q5 g0 g1 g2 g3 g4 g5 b0 b1 b2 b3 b4 b5
        have e0 := cell_n HE9.out 0 (v := .int .i64 p.node) rfl
        have e1 := cell_n HE9.out 1 (v := .int .i64 p.mtch) rfl
        have e2 := cell_n HE9.out 2 (v := .int .i64 index) rfl
        have e3 := cell_n HE9.out 3 (v := .int .i64 1) rfl
        have e4 := cell_n HE9.out 4 (v := .bool p.active) rfl
        have e5 := cell_n HE9.out 5 (v := .int .i64 p.heard) rfl
        refine bodyPost_ret (by simp [results, Try.results39, go_sem, e0, e1, e2, e3, e4, e5]; rfl) rfl ?_
        rw [← HP.out]
        exact ⟨by rw [hres], HB9.out⟩
  · have t3 : decide (hint < 1) = false := decide_eq_false h3
    by_cases h4 : hint < index
    · have t4 : decide (hint < index) = true := decide_eq_true h4
      by_cases h5 : hint ≤ p.mtch
      · have t5 : decide (hint ≤ p.mtch) = true := decide_eq_true h5
        have hres : refuseE p index hint = (⟨p.node, p.mtch, (p.mtch + 1), 1, p.active, p.heard⟩, true) := by unfold refuseE; rw [if_neg (fun h => h.elim h1 h2), show max (p.mtch + 1) (min index (max hint 1)) = (p.mtch + 1) from by omega]
        have hr := hm
        clear h1 h2 h3 h4 h5
        have f2 := free_n hx 2
        obtain ⟨W1, hW1⟩ := hide (W.setCell ⟨B, 2, none⟩ (.int .i64 (p.mtch + 1)))
        have hx1 : W1.heap[B]? = some (.cells (arrG ⟨p.node, p.mtch, (p.mtch + 1), p.state, p.active, p.heard⟩) 27 (0, 0)) := by rw [← hW1.out, heap_setCell]; simp [hx, storeIn]
        have hy1 : W1.heap[B + 1]? = some (.cells #[.int .i64 0, .int .i64 0, .int .i64 0, .int .i64 0, .bool false, .int .i64 0] 27 (0, 0)) := by rw [← hW1.out]; exact hp_set_other hy (by show B ≠ B + 1; omega)
        have Hb1 : Hid (Below B w W1) := by show Below _ _ _; rw [← hW1.out]; exact Hb.out.setCell (p := ⟨B, 2, none⟩) (Nat.le_refl _) _
        clear hx hy
        go_upto_region 11 with fail
        rw [hW1.out]
        clear c1 c2 f2
        have c3 := cell_n hx1 3 (v := .int .i64 p.state) rfl
        have f3 := free_n hx1 3
        obtain ⟨W2, hW2⟩ := hide (W1.setCell ⟨B, 3, none⟩ (.int .i64 1))
        have hx2 : W2.heap[B]? = some (.cells (arrG ⟨p.node, p.mtch, (p.mtch + 1), 1, p.active, p.heard⟩) 27 (0, 0)) := by rw [← hW2.out, heap_setCell]; simp [hx1, storeIn]
        have hy2 : W2.heap[B + 1]? = some (.cells #[.int .i64 0, .int .i64 0, .int .i64 0, .int .i64 0, .bool false, .int .i64 0] 27 (0, 0)) := by rw [← hW2.out]; exact hp_set_other hy1 (by show B ≠ B + 1; omega)
        have Hb2 : Hid (Below B w W2) := by show Below _ _ _; rw [← hW2.out]; exact Hb1.out.setCell (p := ⟨B, 3, none⟩) (Nat.le_refl _) _
        clear hx1 hy1
        go_upto_region 12 with fail
        rw [hW2.out]
        clear c3 f3
        have b0 := cell_n hx2 0 (v := .int .i64 p.node) rfl
        have b1 := cell_n hx2 1 (v := .int .i64 p.mtch) rfl
        have b2 := cell_n hx2 2 (v := .int .i64 (p.mtch + 1)) rfl
        have b3 := cell_n hx2 3 (v := .int .i64 1) rfl
        have b4 := cell_n hx2 4 (v := .bool p.active) rfl
        have b5 := cell_n hx2 5 (v := .int .i64 p.heard) rfl
        have q0 := cell_n hy2 0 (v := .int .i64 0) rfl
        have q1 := cell_n hy2 1 (v := .int .i64 0) rfl
        have q2 := cell_n hy2 2 (v := .int .i64 0) rfl
        have q3 := cell_n hy2 3 (v := .int .i64 0) rfl
        have q4 := cell_n hy2 4 (v := .bool false) rfl
        have q5 := cell_n hy2 5 (v := .int .i64 0) rfl
        have g0 := free_n hy2 0
        have g1 := free_n hy2 1
        have g2 := free_n hy2 2
        have g3 := free_n hy2 3
        have g4 := free_n hy2 4
        have g5 := free_n hy2 5
        have HE9 := Lib.hid (setAll_at (xs := [.int .i64 0, .int .i64 0, .int .i64 0, .int .i64 0, .bool false, .int .i64 0]) hy2 [.int .i64 p.node, .int .i64 p.mtch, .int .i64 (p.mtch + 1), .int .i64 1, .bool p.active, .int .i64 p.heard] rfl)
        have HB9 := Lib.hid (setAll_below Hb2.out (Nat.le_succ B) [.int .i64 p.node, .int .i64 p.mtch, .int .i64 (p.mtch + 1), .int .i64 1, .bool p.active, .int .i64 p.heard])
        clear hx2 hy2
        go_wp2_with fail
        change bodyPost _ _ _ Exit.ret _ (setAll W2 (B + 1) [.int .i64 p.node, .int .i64 p.mtch, .int .i64 (p.mtch + 1), .int .i64 1, .bool p.active, .int .i64 p.heard])
        generalize setAll W2 (B + 1) [.int .i64 p.node, .int .i64 p.mtch, .int .i64 (p.mtch + 1), .int .i64 1, .bool p.active, .int .i64 p.heard] = W9 at HE9 HB9 ⊢
        clear q0 q1 q2 q3 q4 q5 g0 g1 g2 g3 g4 g5 b0 b1 b2 b3 b4 b5
        have e0 := cell_n HE9.out 0 (v := .int .i64 p.node) rfl
        have e1 := cell_n HE9.out 1 (v := .int .i64 p.mtch) rfl
        have e2 := cell_n HE9.out 2 (v := .int .i64 (p.mtch + 1)) rfl
        have e3 := cell_n HE9.out 3 (v := .int .i64 1) rfl
        have e4 := cell_n HE9.out 4 (v := .bool p.active) rfl
        have e5 := cell_n HE9.out 5 (v := .int .i64 p.heard) rfl
        refine bodyPost_ret (by simp [results, Try.results39, go_sem, e0, e1, e2, e3, e4, e5]; rfl) rfl ?_
        rw [← HP.out]
        exact ⟨by rw [hres], HB9.out⟩
      · have t5 : decide (hint ≤ p.mtch) = false := decide_eq_false h5
        have hres : refuseE p index hint = (⟨p.node, p.mtch, hint, 1, p.active, p.heard⟩, true) := by unfold refuseE; rw [if_neg (fun h => h.elim h1 h2), show max (p.mtch + 1) (min index (max hint 1)) = hint from by omega]
        have hr := hm
        clear h1 h2 h3 h4 h5
        have f2 := free_n hx 2
        obtain ⟨W1, hW1⟩ := hide (W.setCell ⟨B, 2, none⟩ (.int .i64 hint))
        have hx1 : W1.heap[B]? = some (.cells (arrG ⟨p.node, p.mtch, hint, p.state, p.active, p.heard⟩) 27 (0, 0)) := by rw [← hW1.out, heap_setCell]; simp [hx, storeIn]
        have hy1 : W1.heap[B + 1]? = some (.cells #[.int .i64 0, .int .i64 0, .int .i64 0, .int .i64 0, .bool false, .int .i64 0] 27 (0, 0)) := by rw [← hW1.out]; exact hp_set_other hy (by show B ≠ B + 1; omega)
        have Hb1 : Hid (Below B w W1) := by show Below _ _ _; rw [← hW1.out]; exact Hb.out.setCell (p := ⟨B, 2, none⟩) (Nat.le_refl _) _
        clear hx hy
        go_upto_region 11 with fail
        rw [hW1.out]
        clear c1 c2 f2
        have c3 := cell_n hx1 3 (v := .int .i64 p.state) rfl
        have f3 := free_n hx1 3
        obtain ⟨W2, hW2⟩ := hide (W1.setCell ⟨B, 3, none⟩ (.int .i64 1))
        have hx2 : W2.heap[B]? = some (.cells (arrG ⟨p.node, p.mtch, hint, 1, p.active, p.heard⟩) 27 (0, 0)) := by rw [← hW2.out, heap_setCell]; simp [hx1, storeIn]
        have hy2 : W2.heap[B + 1]? = some (.cells #[.int .i64 0, .int .i64 0, .int .i64 0, .int .i64 0, .bool false, .int .i64 0] 27 (0, 0)) := by rw [← hW2.out]; exact hp_set_other hy1 (by show B ≠ B + 1; omega)
        have Hb2 : Hid (Below B w W2) := by show Below _ _ _; rw [← hW2.out]; exact Hb1.out.setCell (p := ⟨B, 3, none⟩) (Nat.le_refl _) _
        clear hx1 hy1
        go_upto_region 12 with fail
        rw [hW2.out]
        clear c3 f3
        have b0 := cell_n hx2 0 (v := .int .i64 p.node) rfl
        have b1 := cell_n hx2 1 (v := .int .i64 p.mtch) rfl
        have b2 := cell_n hx2 2 (v := .int .i64 hint) rfl
        have b3 := cell_n hx2 3 (v := .int .i64 1) rfl
        have b4 := cell_n hx2 4 (v := .bool p.active) rfl
        have b5 := cell_n hx2 5 (v := .int .i64 p.heard) rfl
        have q0 := cell_n hy2 0 (v := .int .i64 0) rfl
        have q1 := cell_n hy2 1 (v := .int .i64 0) rfl
        have q2 := cell_n hy2 2 (v := .int .i64 0) rfl
        have q3 := cell_n hy2 3 (v := .int .i64 0) rfl
        have q4 := cell_n hy2 4 (v := .bool false) rfl
        have q5 := cell_n hy2 5 (v := .int .i64 0) rfl
        have g0 := free_n hy2 0
        have g1 := free_n hy2 1
        have g2 := free_n hy2 2
        have g3 := free_n hy2 3
        have g4 := free_n hy2 4
        have g5 := free_n hy2 5
        have HE9 := Lib.hid (setAll_at (xs := [.int .i64 0, .int .i64 0, .int .i64 0, .int .i64 0, .bool false, .int .i64 0]) hy2 [.int .i64 p.node, .int .i64 p.mtch, .int .i64 hint, .int .i64 1, .bool p.active, .int .i64 p.heard] rfl)
        have HB9 := Lib.hid (setAll_below Hb2.out (Nat.le_succ B) [.int .i64 p.node, .int .i64 p.mtch, .int .i64 hint, .int .i64 1, .bool p.active, .int .i64 p.heard])
        clear hx2 hy2
        go_wp2_with fail
        change bodyPost _ _ _ Exit.ret _ (setAll W2 (B + 1) [.int .i64 p.node, .int .i64 p.mtch, .int .i64 hint, .int .i64 1, .bool p.active, .int .i64 p.heard])
        generalize setAll W2 (B + 1) [.int .i64 p.node, .int .i64 p.mtch, .int .i64 hint, .int .i64 1, .bool p.active, .int .i64 p.heard] = W9 at HE9 HB9 ⊢
        clear q0 q1 q2 q3 q4 q5 g0 g1 g2 g3 g4 g5 b0 b1 b2 b3 b4 b5
        have e0 := cell_n HE9.out 0 (v := .int .i64 p.node) rfl
        have e1 := cell_n HE9.out 1 (v := .int .i64 p.mtch) rfl
        have e2 := cell_n HE9.out 2 (v := .int .i64 hint) rfl
        have e3 := cell_n HE9.out 3 (v := .int .i64 1) rfl
        have e4 := cell_n HE9.out 4 (v := .bool p.active) rfl
        have e5 := cell_n HE9.out 5 (v := .int .i64 p.heard) rfl
        refine bodyPost_ret (by simp [results, Try.results39, go_sem, e0, e1, e2, e3, e4, e5]; rfl) rfl ?_
        rw [← HP.out]
        exact ⟨by rw [hres], HB9.out⟩
    · have t4 : decide (hint < index) = false := decide_eq_false h4
      have h5 : ¬ index ≤ p.mtch := h1
      · have t5 : decide (index ≤ p.mtch) = false := decide_eq_false h5
        have hres : refuseE p index hint = (⟨p.node, p.mtch, index, 1, p.active, p.heard⟩, true) := by unfold refuseE; rw [if_neg (fun h => h.elim h1 h2), show max (p.mtch + 1) (min index (max hint 1)) = index from by omega]
        have hr := hm
        clear h1 h2 h3 h4 h5
        have f2 := free_n hx 2
        obtain ⟨W1, hW1⟩ := hide (W.setCell ⟨B, 2, none⟩ (.int .i64 index))
        have hx1 : W1.heap[B]? = some (.cells (arrG ⟨p.node, p.mtch, index, p.state, p.active, p.heard⟩) 27 (0, 0)) := by rw [← hW1.out, heap_setCell]; simp [hx, storeIn]
        have hy1 : W1.heap[B + 1]? = some (.cells #[.int .i64 0, .int .i64 0, .int .i64 0, .int .i64 0, .bool false, .int .i64 0] 27 (0, 0)) := by rw [← hW1.out]; exact hp_set_other hy (by show B ≠ B + 1; omega)
        have Hb1 : Hid (Below B w W1) := by show Below _ _ _; rw [← hW1.out]; exact Hb.out.setCell (p := ⟨B, 2, none⟩) (Nat.le_refl _) _
        clear hx hy
        go_upto_region 11 with fail
        rw [hW1.out]
        clear c1 c2 f2
        have c3 := cell_n hx1 3 (v := .int .i64 p.state) rfl
        have f3 := free_n hx1 3
        obtain ⟨W2, hW2⟩ := hide (W1.setCell ⟨B, 3, none⟩ (.int .i64 1))
        have hx2 : W2.heap[B]? = some (.cells (arrG ⟨p.node, p.mtch, index, 1, p.active, p.heard⟩) 27 (0, 0)) := by rw [← hW2.out, heap_setCell]; simp [hx1, storeIn]
        have hy2 : W2.heap[B + 1]? = some (.cells #[.int .i64 0, .int .i64 0, .int .i64 0, .int .i64 0, .bool false, .int .i64 0] 27 (0, 0)) := by rw [← hW2.out]; exact hp_set_other hy1 (by show B ≠ B + 1; omega)
        have Hb2 : Hid (Below B w W2) := by show Below _ _ _; rw [← hW2.out]; exact Hb1.out.setCell (p := ⟨B, 3, none⟩) (Nat.le_refl _) _
        clear hx1 hy1
        go_upto_region 12 with fail
        rw [hW2.out]
        clear c3 f3
        have b0 := cell_n hx2 0 (v := .int .i64 p.node) rfl
        have b1 := cell_n hx2 1 (v := .int .i64 p.mtch) rfl
        have b2 := cell_n hx2 2 (v := .int .i64 index) rfl
        have b3 := cell_n hx2 3 (v := .int .i64 1) rfl
        have b4 := cell_n hx2 4 (v := .bool p.active) rfl
        have b5 := cell_n hx2 5 (v := .int .i64 p.heard) rfl
        have q0 := cell_n hy2 0 (v := .int .i64 0) rfl
        have q1 := cell_n hy2 1 (v := .int .i64 0) rfl
        have q2 := cell_n hy2 2 (v := .int .i64 0) rfl
        have q3 := cell_n hy2 3 (v := .int .i64 0) rfl
        have q4 := cell_n hy2 4 (v := .bool false) rfl
        have q5 := cell_n hy2 5 (v := .int .i64 0) rfl
        have g0 := free_n hy2 0
        have g1 := free_n hy2 1
        have g2 := free_n hy2 2
        have g3 := free_n hy2 3
        have g4 := free_n hy2 4
        have g5 := free_n hy2 5
        have HE9 := Lib.hid (setAll_at (xs := [.int .i64 0, .int .i64 0, .int .i64 0, .int .i64 0, .bool false, .int .i64 0]) hy2 [.int .i64 p.node, .int .i64 p.mtch, .int .i64 index, .int .i64 1, .bool p.active, .int .i64 p.heard] rfl)
        have HB9 := Lib.hid (setAll_below Hb2.out (Nat.le_succ B) [.int .i64 p.node, .int .i64 p.mtch, .int .i64 index, .int .i64 1, .bool p.active, .int .i64 p.heard])
        clear hx2 hy2
        go_wp2_with fail
        change bodyPost _ _ _ Exit.ret _ (setAll W2 (B + 1) [.int .i64 p.node, .int .i64 p.mtch, .int .i64 index, .int .i64 1, .bool p.active, .int .i64 p.heard])
        generalize setAll W2 (B + 1) [.int .i64 p.node, .int .i64 p.mtch, .int .i64 index, .int .i64 1, .bool p.active, .int .i64 p.heard] = W9 at HE9 HB9 ⊢
        clear q0 q1 q2 q3 q4 q5 g0 g1 g2 g3 g4 g5 b0 b1 b2 b3 b4 b5
        have e0 := cell_n HE9.out 0 (v := .int .i64 p.node) rfl
        have e1 := cell_n HE9.out 1 (v := .int .i64 p.mtch) rfl
        have e2 := cell_n HE9.out 2 (v := .int .i64 index) rfl
        have e3 := cell_n HE9.out 3 (v := .int .i64 1) rfl
        have e4 := cell_n HE9.out 4 (v := .bool p.active) rfl
        have e5 := cell_n HE9.out 5 (v := .int .i64 p.heard) rfl
        refine bodyPost_ret (by simp [results, Try.results39, go_sem, e0, e1, e2, e3, e4, e5]; rfl) rfl ?_
        rw [← HP.out]
        exact ⟨by rw [hres], HB9.out⟩
end Go.Proofs.Ytgdmcbjlfnjhjaa

namespace Go.Proofs.Ytgdmcbjlfnjhjaa
open Go.RowKit Wm Mm Lg
set_option linter.unusedVariables false
set_option linter.unusedSimpArgs false

def planE (p : ProgP) (base last : Int) : ProgP × Int × Int × Bool :=
  if p.nxt ≤ base then (⟨p.node, p.mtch, p.nxt, 3, p.active, p.heard⟩, 0, 0, true)
  else if p.state = 2 then (⟨p.node, p.mtch, p.nxt + max (min (min 8 (last - (p.nxt - 1))) (p.mtch + 16 - (p.nxt - 1))) 0, 2, p.active, p.heard⟩, p.nxt - 1, max (min (min 8 (last - (p.nxt - 1))) (p.mtch + 16 - (p.nxt - 1))) 0, false)
  else (p, p.nxt - 1, min 8 (last - (p.nxt - 1)), false)
set_option maxHeartbeats 4000000 in
theorem plan_law (p : ProgP) (base bt : Int) (ev : Value) (es : List EntP) (F : Nat → Prop) (w : World) (h : Ents F w ev es) (hk : Ok base es) (hn1 : p.nxt ≤ base + es.length + 1) (hm0 : 0 ≤ p.mtch) (hm1 : p.mtch < p.nxt) :
    Calls Try.prog 41 #[.agg (arrG p), vLog base bt ev] w fun e w' => e = .returned (.tuple #[.agg (arrG (planE p base (base + es.length)).1), .int .i64 (planE p base (base + es.length)).2.1, .int .i64 (planE p base (base + es.length)).2.2.1, .bool (planE p base (base + es.length)).2.2.2]) ∧ Below w.heap.size w w' := by
  obtain ⟨post, HP⟩ := hide (fun (e : Ending) (w' : World) => e = .returned (.tuple #[.agg (arrG (planE p base (base + es.length)).1), .int .i64 (planE p base (base + es.length)).2.1, .int .i64 (planE p base (base + es.length)).2.2.1, .bool (planE p base (base + es.length)).2.2.2]) ∧ Below w.heap.size w w')
  rw [HP.out]
  have hb1 := hk.b0
  have hb2 := hk.b1
  have hbn := hk.n
  obtain ⟨ao, cap, rfl, _, _⟩ := h.slice
  obtain ⟨W, hW⟩ := hide (((w.alloc (.cells (arrG p) 27)).alloc (.cells (oLog base bt (.slice ao es.length cap)) 33)).alloc (.cells #[.int .i64 0, .int .i64 0, .int .i64 0, .int .i64 0, .bool false, .int .i64 0] 27))
  have hx : W.heap[w.heap.size]? = some (.cells (arrG p) 27 (0, 0)) := by rw [← hW.out]; exact (hp_past _ _ (by simp; omega)).trans ((hp_past _ _ (by simp)).trans (hp_at _ _ rfl))
  have hl : W.heap[w.heap.size + 1]? = some (.cells (oLog base bt (.slice ao es.length cap)) 33 (0, 0)) := by rw [← hW.out]; exact (hp_past _ _ (by simp)).trans (hp_at _ _ (by simp))
  have hy : W.heap[w.heap.size + 2]? = some (.cells #[.int .i64 0, .int .i64 0, .int .i64 0, .int .i64 0, .bool false, .int .i64 0] 27 (0, 0)) := by rw [← hW.out]; exact hp_at _ _ (by simp)
  have hb : Below w.heap.size w W := by rw [← hW.out]; exact (((Below.refl _ _).alloc (Nat.le_refl _) _).alloc (by simp) _).alloc (by simp; omega) _
  have HL := Lib.hid (wire_last base bt _ es F W (h.frame (Plain.good _) (Agree.below hb)) hk)
  obtain ⟨B, hB⟩ := hide w.heap.size
  rw [hB.out] at hx hl hy hb HP
  have Hb := Lib.hid hb
  have HBW : Hid (B ≤ W.heap.size) := by show _ ≤ _; have := lt_of_block hx; omega
  obtain ⟨L, hL⟩ := hide (base + (es.length : Int))
  rw [hL.out] at HL HP hn1
  have hL2 : L ≤ 4398046511104 := by rw [← hL.out]; omega
  have hL3 : base ≤ L := by rw [← hL.out]; omega
  obtain ⟨P, hP⟩ := hide (p.nxt - 1)
  obtain ⟨D, hD⟩ := hide (L - P)
  obtain ⟨n0, hn0⟩ := hide (min 8 D)
  obtain ⟨E, hE⟩ := hide (p.mtch + 16 - P)
  obtain ⟨m, hm⟩ := hide (max (min n0 E) 0)
  have k1 := hP.out
  have k2 := hD.out
  have k3 := hn0.out
  have k4 := hE.out
  have k5 := hm.out
  have w1 : wrap64 (p.nxt - 1) = P := by rw [← hP.out]; exact IntWalk.wrap64_in _ (by omega)
  have w2 : wrap64 (L - P) = D := by rw [← hD.out]; exact IntWalk.wrap64_in _ (by omega)
  have w3 : wrap64 (p.mtch + 16) = p.mtch + 16 := IntWalk.wrap64_in _ (by omega)
  have w4 : wrap64 (p.mtch + 16 - P) = E := by rw [← hE.out]; exact IntWalk.wrap64_in _ (by omega)
  have w5 : wrap64 (p.nxt + m) = p.nxt + m := IntWalk.wrap64_in _ (by omega)
  have d0 := cell_n hl 0 (v := .int .i64 base) rfl
  have d1 := cell_n hl 1 (v := .int .i64 bt) rfl
  have d2 := cell_n hl 2 (v := .slice ao es.length cap) rfl
  clear hb h hk hn1 hm0 hb1 hb2 hbn hL2 hL3 hm1
  go_enter Try.func41, Try.ntmps41
  go_upto_region 1 with fail
  rw [hW.out, hB.out]
  go_wp2_with fail
  refine HL.out.mono ?_
  rintro e wq ⟨rfl, hbq⟩
  have hx2 : wq.heap[B]? = some (.cells (arrG p) 27 (0, 0)) := (hbq.block _ (lt_of_block hx)).trans hx
  have hl2 : wq.heap[B + 1]? = some (.cells (oLog base bt (.slice ao es.length cap)) 33 (0, 0)) := (hbq.block _ (lt_of_block hl)).trans hl
  have hy2 : wq.heap[B + 2]? = some (.cells #[.int .i64 0, .int .i64 0, .int .i64 0, .int .i64 0, .bool false, .int .i64 0] 27 (0, 0)) := (hbq.block _ (lt_of_block hy)).trans hy
  have Hb2 : Hid (Below B w wq) := Hb.out.trans (hbq.mono HBW.out)
  clear hbq hx hl hy d0 d1 d2
  dsimp only
  have c2 := cell_n hx2 2 (v := .int .i64 p.nxt) rfl
  have c3 := cell_n hx2 3 (v := .int .i64 p.state) rfl
  have d0 := cell_n hl2 0 (v := .int .i64 base) rfl
  clear hl2
  by_cases h1 : p.nxt ≤ base
  · have t1 : decide (p.nxt ≤ base) = true := decide_eq_true h1
    have hres : planE p base L = (⟨p.node, p.mtch, p.nxt, 3, p.active, p.heard⟩, 0, 0, true) := by unfold planE; rw [if_pos h1]
    clear h1
    have f3 := free_n hx2 3
    obtain ⟨W5, hW5⟩ := hide (wq.setCell ⟨B, 3, none⟩ (.int .i64 3))
    have hx5 : W5.heap[B]? = some (.cells (arrG ⟨p.node, p.mtch, p.nxt, 3, p.active, p.heard⟩) 27 (0, 0)) := by rw [← hW5.out, heap_setCell]; simp [hx2, storeIn]
    have hy5 : W5.heap[B + 2]? = some (.cells #[.int .i64 0, .int .i64 0, .int .i64 0, .int .i64 0, .bool false, .int .i64 0] 27 (0, 0)) := by rw [← hW5.out]; exact hp_set_other hy2 (by show B ≠ B + 2; omega)
    have Hb5 : Hid (Below B w W5) := by show Below _ _ _; rw [← hW5.out]; exact Hb2.out.setCell (p := ⟨B, 3, none⟩) (Nat.le_refl _) _
    clear hx2 hy2 w1 w2 w3 w4 w5 k1 k2 k3 k4 k5
    go_upto_region 4 with fail
    rw [hW5.out]
    clear f3 c2 c3
    have b0 := cell_n hx5 0 (v := .int .i64 p.node) rfl
    have b1 := cell_n hx5 1 (v := .int .i64 p.mtch) rfl
    have b2 := cell_n hx5 2 (v := .int .i64 p.nxt) rfl
    have b3 := cell_n hx5 3 (v := .int .i64 3) rfl
    have b4 := cell_n hx5 4 (v := .bool p.active) rfl
    have b5 := cell_n hx5 5 (v := .int .i64 p.heard) rfl
    have q0 := cell_n hy5 0 (v := .int .i64 0) rfl
    have q1 := cell_n hy5 1 (v := .int .i64 0) rfl
    have q2 := cell_n hy5 2 (v := .int .i64 0) rfl
    have q3 := cell_n hy5 3 (v := .int .i64 0) rfl
    have q4 := cell_n hy5 4 (v := .bool false) rfl
    have q5 := cell_n hy5 5 (v := .int .i64 0) rfl
    have g0 := free_n hy5 0
    have g1 := free_n hy5 1
    have g2 := free_n hy5 2
    have g3 := free_n hy5 3
    have g4 := free_n hy5 4
    have g5 := free_n hy5 5
    have HE9 := Lib.hid (setAll_at (xs := [.int .i64 0, .int .i64 0, .int .i64 0, .int .i64 0, .bool false, .int .i64 0]) hy5 [.int .i64 p.node, .int .i64 p.mtch, .int .i64 p.nxt, .int .i64 3, .bool p.active, .int .i64 p.heard] rfl)
    have HB9 := Lib.hid (setAll_below Hb5.out (show B ≤ B + 2 by omega) [.int .i64 p.node, .int .i64 p.mtch, .int .i64 p.nxt, .int .i64 3, .bool p.active, .int .i64 p.heard])
    clear hx5 hy5
    go_wp2_with fail
    change bodyPost _ _ _ Exit.ret _ (setAll W5 (B + 2) [.int .i64 p.node, .int .i64 p.mtch, .int .i64 p.nxt, .int .i64 3, .bool p.active, .int .i64 p.heard])
    generalize setAll W5 (B + 2) [.int .i64 p.node, .int .i64 p.mtch, .int .i64 p.nxt, .int .i64 3, .bool p.active, .int .i64 p.heard] = W9 at HE9 HB9 ⊢
    clear q0 q1 q2 q3 q4 q5 g0 g1 g2 g3 g4 g5 b0 b1 b2 b3 b4 b5
    have e0 := cell_n HE9.out 0 (v := .int .i64 p.node) rfl
    have e1 := cell_n HE9.out 1 (v := .int .i64 p.mtch) rfl
    have e2 := cell_n HE9.out 2 (v := .int .i64 p.nxt) rfl
    have e3 := cell_n HE9.out 3 (v := .int .i64 3) rfl
    have e4 := cell_n HE9.out 4 (v := .bool p.active) rfl
    have e5 := cell_n HE9.out 5 (v := .int .i64 p.heard) rfl
    refine bodyPost_ret (by simp [results, Try.results41, go_sem, e0, e1, e2, e3, e4, e5]; rfl) rfl ?_
    rw [← HP.out]
    exact ⟨by rw [hres], HB9.out⟩
  have t1 : decide (p.nxt ≤ base) = false := decide_eq_false h1
  by_cases h2 : p.state = 2
  · have t2 : (p.state == 2) = true := by rw [h2]; rfl
    have hres : planE p base L = (⟨p.node, p.mtch, p.nxt + m, 2, p.active, p.heard⟩, P, m, false) := by unfold planE; rw [if_neg h1, if_pos h2, k1, k2, k3, k4, k5]
    have s2 := h2
    clear h1 h2 k1 k2 k3 k4 k5
    have c1 := cell_n hx2 1 (v := .int .i64 p.mtch) rfl
    have f2 := free_n hx2 2
    have hx2' : wq.heap[B]? = some (.cells (arrG ⟨p.node, p.mtch, p.nxt, 2, p.active, p.heard⟩) 27 (0, 0)) := by rw [hx2]; unfold arrG; rw [s2]
    clear hx2 s2
    obtain ⟨W5, hW5⟩ := hide (wq.setCell ⟨B, 2, none⟩ (.int .i64 (p.nxt + m)))
    have hx5 : W5.heap[B]? = some (.cells (arrG ⟨p.node, p.mtch, p.nxt + m, 2, p.active, p.heard⟩) 27 (0, 0)) := by rw [← hW5.out, heap_setCell]; simp [hx2', storeIn]
    have hy5 : W5.heap[B + 2]? = some (.cells #[.int .i64 0, .int .i64 0, .int .i64 0, .int .i64 0, .bool false, .int .i64 0] 27 (0, 0)) := by rw [← hW5.out]; exact hp_set_other hy2 (by show B ≠ B + 2; omega)
    have Hb5 : Hid (Below B w W5) := by show Below _ _ _; rw [← hW5.out]; exact Hb2.out.setCell (p := ⟨B, 2, none⟩) (Nat.le_refl _) _
    clear hx2' hy2
    go_upto_region 6 with fail
    try rw [w1]
    go_upto_region 7 with fail
    try rw [w2]
    try rw [hn0.out]
    go_upto_region 9 with fail
    try rw [w3]
    try rw [w4]
    try rw [hm.out]
    go_upto_region 10 with fail
    rw [hW5.out]
    clear c1 c2 c3 f2 d0
    have b0 := cell_n hx5 0 (v := .int .i64 p.node) rfl
    have b1 := cell_n hx5 1 (v := .int .i64 p.mtch) rfl
    have b2 := cell_n hx5 2 (v := .int .i64 (p.nxt + m)) rfl
    have b3 := cell_n hx5 3 (v := .int .i64 2) rfl
    have b4 := cell_n hx5 4 (v := .bool p.active) rfl
    have b5 := cell_n hx5 5 (v := .int .i64 p.heard) rfl
    have q0 := cell_n hy5 0 (v := .int .i64 0) rfl
    have q1 := cell_n hy5 1 (v := .int .i64 0) rfl
    have q2 := cell_n hy5 2 (v := .int .i64 0) rfl
    have q3 := cell_n hy5 3 (v := .int .i64 0) rfl
    have q4 := cell_n hy5 4 (v := .bool false) rfl
    have q5 := cell_n hy5 5 (v := .int .i64 0) rfl
    have g0 := free_n hy5 0
    have g1 := free_n hy5 1
    have g2 := free_n hy5 2
    have g3 := free_n hy5 3
    have g4 := free_n hy5 4
    have g5 := free_n hy5 5
    have HE9 := Lib.hid (setAll_at (xs := [.int .i64 0, .int .i64 0, .int .i64 0, .int .i64 0, .bool false, .int .i64 0]) hy5 [.int .i64 p.node, .int .i64 p.mtch, .int .i64 (p.nxt + m), .int .i64 2, .bool p.active, .int .i64 p.heard] rfl)
    have HB9 := Lib.hid (setAll_below Hb5.out (show B ≤ B + 2 by omega) [.int .i64 p.node, .int .i64 p.mtch, .int .i64 (p.nxt + m), .int .i64 2, .bool p.active, .int .i64 p.heard])
    clear hx5 hy5
    go_wp2_with fail
    change bodyPost _ _ _ Exit.ret _ (setAll W5 (B + 2) [.int .i64 p.node, .int .i64 p.mtch, .int .i64 (p.nxt + m), .int .i64 2, .bool p.active, .int .i64 p.heard])
    generalize setAll W5 (B + 2) [.int .i64 p.node, .int .i64 p.mtch, .int .i64 (p.nxt + m), .int .i64 2, .bool p.active, .int .i64 p.heard] = W9 at HE9 HB9 ⊢
    clear q0 q1 q2 q3 q4 q5 g0 g1 g2 g3 g4 g5 b0 b1 b2 b3 b4 b5
    have e0 := cell_n HE9.out 0 (v := .int .i64 p.node) rfl
    have e1 := cell_n HE9.out 1 (v := .int .i64 p.mtch) rfl
    have e2 := cell_n HE9.out 2 (v := .int .i64 (p.nxt + m)) rfl
    have e3 := cell_n HE9.out 3 (v := .int .i64 2) rfl
    have e4 := cell_n HE9.out 4 (v := .bool p.active) rfl
    have e5 := cell_n HE9.out 5 (v := .int .i64 p.heard) rfl
    refine bodyPost_ret (by simp [results, Try.results41, go_sem, e0, e1, e2, e3, e4, e5]; rfl) rfl ?_
    rw [← HP.out]
    exact ⟨by rw [hres], HB9.out⟩
  · have t2 : (p.state == 2) = false := beq_eq_false_iff_ne.mpr h2
    have hres : planE p base L = (p, P, n0, false) := by unfold planE; rw [if_neg h1, if_neg h2, k1, k2, k3]
    clear h1 h2 k1 k2 k3 k4 k5 w3 w4 w5
    go_upto_region 6 with fail
    try rw [w1]
    go_upto_region 7 with fail
    try rw [w2]
    try rw [hn0.out]
    go_upto_region 10 with fail
    clear c2 c3 d0
    have b0 := cell_n hx2 0 (v := .int .i64 p.node) rfl
    have b1 := cell_n hx2 1 (v := .int .i64 p.mtch) rfl
    have b2 := cell_n hx2 2 (v := .int .i64 p.nxt) rfl
    have b3 := cell_n hx2 3 (v := .int .i64 p.state) rfl
    have b4 := cell_n hx2 4 (v := .bool p.active) rfl
    have b5 := cell_n hx2 5 (v := .int .i64 p.heard) rfl
    have q0 := cell_n hy2 0 (v := .int .i64 0) rfl
    have q1 := cell_n hy2 1 (v := .int .i64 0) rfl
    have q2 := cell_n hy2 2 (v := .int .i64 0) rfl
    have q3 := cell_n hy2 3 (v := .int .i64 0) rfl
    have q4 := cell_n hy2 4 (v := .bool false) rfl
    have q5 := cell_n hy2 5 (v := .int .i64 0) rfl
    have g0 := free_n hy2 0
    have g1 := free_n hy2 1
    have g2 := free_n hy2 2
    have g3 := free_n hy2 3
    have g4 := free_n hy2 4
    have g5 := free_n hy2 5
    have HE9 := Lib.hid (setAll_at (xs := [.int .i64 0, .int .i64 0, .int .i64 0, .int .i64 0, .bool false, .int .i64 0]) hy2 [.int .i64 p.node, .int .i64 p.mtch, .int .i64 p.nxt, .int .i64 p.state, .bool p.active, .int .i64 p.heard] rfl)
    have HB9 := Lib.hid (setAll_below Hb2.out (show B ≤ B + 2 by omega) [.int .i64 p.node, .int .i64 p.mtch, .int .i64 p.nxt, .int .i64 p.state, .bool p.active, .int .i64 p.heard])
    clear hx2 hy2
    go_wp2_with fail
    change bodyPost _ _ _ Exit.ret _ (setAll wq (B + 2) [.int .i64 p.node, .int .i64 p.mtch, .int .i64 p.nxt, .int .i64 p.state, .bool p.active, .int .i64 p.heard])
    generalize setAll wq (B + 2) [.int .i64 p.node, .int .i64 p.mtch, .int .i64 p.nxt, .int .i64 p.state, .bool p.active, .int .i64 p.heard] = W9 at HE9 HB9 ⊢
    clear q0 q1 q2 q3 q4 q5 g0 g1 g2 g3 g4 g5 b0 b1 b2 b3 b4 b5
    have e0 := cell_n HE9.out 0 (v := .int .i64 p.node) rfl
    have e1 := cell_n HE9.out 1 (v := .int .i64 p.mtch) rfl
    have e2 := cell_n HE9.out 2 (v := .int .i64 p.nxt) rfl
    have e3 := cell_n HE9.out 3 (v := .int .i64 p.state) rfl
    have e4 := cell_n HE9.out 4 (v := .bool p.active) rfl
    have e5 := cell_n HE9.out 5 (v := .int .i64 p.heard) rfl
    refine bodyPost_ret (by simp [results, Try.results41, go_sem, e0, e1, e2, e3, e4, e5]; rfl) rfl ?_
    rw [← HP.out]
    exact ⟨by rw [hres], HB9.out⟩
end Go.Proofs.Ytgdmcbjlfnjhjaa

namespace Go.Proofs.Ytgdmcbjlfnjhjaa
open Go.RowKit Wm Mm Lg
set_option linter.unusedVariables false
set_option linter.unusedSimpArgs false

set_option maxHeartbeats 4000000 in
theorem refPlan_law (p : ProgP) (base bt : Int) (ev : Value) (es : List EntP) (F : Nat → Prop) (w : World) (h : Ents F w ev es) (hk : Ok base es) (hn1 : p.nxt ≤ base + es.length + 1) (hm0 : 0 ≤ p.mtch) (hm1 : p.mtch < p.nxt) :
    Calls Try.prog 42 #[.agg (arrG p), vLog base bt ev] w fun e w' => e = .returned (.tuple #[.agg (arrG (planE p base (base + es.length)).1), .int .i64 (planE p base (base + es.length)).2.1, .int .i64 (planE p base (base + es.length)).2.2.1, .bool (planE p base (base + es.length)).2.2.2]) ∧ Below w.heap.size w w' := by
  obtain ⟨post, HP⟩ := hide (fun (e : Ending) (w' : World) => e = .returned (.tuple #[.agg (arrG (planE p base (base + es.length)).1), .int .i64 (planE p base (base + es.length)).2.1, .int .i64 (planE p base (base + es.length)).2.2.1, .bool (planE p base (base + es.length)).2.2.2]) ∧ Below w.heap.size w w')
  rw [HP.out]
  have hb1 := hk.b0
  have hb2 := hk.b1
  have hbn := hk.n
  obtain ⟨ao, cap, rfl, _, _⟩ := h.slice
  obtain ⟨W, hW⟩ := hide (((w.alloc (.cells (arrG p) 27)).alloc (.cells (oLog base bt (.slice ao es.length cap)) 33)).alloc (.cells #[.int .i64 0, .int .i64 0, .int .i64 0, .int .i64 0, .bool false, .int .i64 0] 27))
  have hx : W.heap[w.heap.size]? = some (.cells (arrG p) 27 (0, 0)) := by rw [← hW.out]; exact (hp_past _ _ (by simp; omega)).trans ((hp_past _ _ (by simp)).trans (hp_at _ _ rfl))
  have hl : W.heap[w.heap.size + 1]? = some (.cells (oLog base bt (.slice ao es.length cap)) 33 (0, 0)) := by rw [← hW.out]; exact (hp_past _ _ (by simp)).trans (hp_at _ _ (by simp))
  have hy : W.heap[w.heap.size + 2]? = some (.cells #[.int .i64 0, .int .i64 0, .int .i64 0, .int .i64 0, .bool false, .int .i64 0] 27 (0, 0)) := by rw [← hW.out]; exact hp_at _ _ (by simp)
  have hb : Below w.heap.size w W := by rw [← hW.out]; exact (((Below.refl _ _).alloc (Nat.le_refl _) _).alloc (by simp) _).alloc (by simp; omega) _
  have HL := Lib.hid (ref_end base bt _ es F W (h.frame (Plain.good _) (Agree.below hb)) hk)
  obtain ⟨B, hB⟩ := hide w.heap.size
  rw [hB.out] at hx hl hy hb HP
  have Hb := Lib.hid hb
  have HBW : Hid (B ≤ W.heap.size) := by show _ ≤ _; have := lt_of_block hx; omega
  obtain ⟨L, hL⟩ := hide (base + (es.length : Int))
  rw [hL.out] at HL HP hn1
  have hL2 : L ≤ 4398046511104 := by rw [← hL.out]; omega
  have hL3 : base ≤ L := by rw [← hL.out]; omega
  obtain ⟨P, hP⟩ := hide (p.nxt - 1)
  obtain ⟨D, hD⟩ := hide (L - P)
  obtain ⟨n0, hn0⟩ := hide (min 8 D)
  obtain ⟨E, hE⟩ := hide (p.mtch + 16 - P)
  obtain ⟨m, hm⟩ := hide (max (min n0 E) 0)
  have k1 := hP.out
  have k2 := hD.out
  have k3 := hn0.out
  have k4 := hE.out
  have k5 := hm.out
  have w1 : wrap64 (p.nxt - 1) = P := by rw [← hP.out]; exact IntWalk.wrap64_in _ (by omega)
  have w2 : wrap64 (L - P) = D := by rw [← hD.out]; exact IntWalk.wrap64_in _ (by omega)
  have w3 : wrap64 (p.mtch + 16) = p.mtch + 16 := IntWalk.wrap64_in _ (by omega)
  have w4 : wrap64 (p.mtch + 16 - P) = E := by rw [← hE.out]; exact IntWalk.wrap64_in _ (by omega)
  have w5 : wrap64 (p.nxt + m) = p.nxt + m := IntWalk.wrap64_in _ (by omega)
  have c2 := cell_n hx 2 (v := .int .i64 p.nxt) rfl
  have d0 := cell_n hl 0 (v := .int .i64 base) rfl
  have d1 := cell_n hl 1 (v := .int .i64 bt) rfl
  have d2 := cell_n hl 2 (v := .slice ao es.length cap) rfl
  clear hb h hk hn1 hm0 hb1 hb2 hbn hL2 hL3 hm1
  go_enter Try.func42, Try.ntmps42
  go_upto_region 1 with fail
  rw [hW.out, hB.out]
  by_cases h1 : p.nxt ≤ base
  · have t1 : decide (p.nxt ≤ base) = true := decide_eq_true h1
    have c3 := cell_n hx 3 (v := .int .i64 p.state) rfl
    have hres : planE p base L = (⟨p.node, p.mtch, p.nxt, 3, p.active, p.heard⟩, 0, 0, true) := by unfold planE; rw [if_pos h1]
    clear h1
    have f3 := free_n hx 3
    obtain ⟨W5, hW5⟩ := hide (W.setCell ⟨B, 3, none⟩ (.int .i64 3))
    have hx5 : W5.heap[B]? = some (.cells (arrG ⟨p.node, p.mtch, p.nxt, 3, p.active, p.heard⟩) 27 (0, 0)) := by rw [← hW5.out, heap_setCell]; simp [hx, storeIn]
    have hy5 : W5.heap[B + 2]? = some (.cells #[.int .i64 0, .int .i64 0, .int .i64 0, .int .i64 0, .bool false, .int .i64 0] 27 (0, 0)) := by rw [← hW5.out]; exact hp_set_other hy (by show B ≠ B + 2; omega)
    have Hb5 : Hid (Below B w W5) := by show Below _ _ _; rw [← hW5.out]; exact Hb.out.setCell (p := ⟨B, 3, none⟩) (Nat.le_refl _) _
    clear hx hy w1 w2 w3 w4 w5 k1 k2 k3 k4 k5
    go_upto_region 3 with fail
    rw [hW5.out]
    clear f3 c2 c3 d0 d1 d2
    have b0 := cell_n hx5 0 (v := .int .i64 p.node) rfl
    have b1 := cell_n hx5 1 (v := .int .i64 p.mtch) rfl
    have b2 := cell_n hx5 2 (v := .int .i64 p.nxt) rfl
    have b3 := cell_n hx5 3 (v := .int .i64 3) rfl
    have b4 := cell_n hx5 4 (v := .bool p.active) rfl
    have b5 := cell_n hx5 5 (v := .int .i64 p.heard) rfl
    have q0 := cell_n hy5 0 (v := .int .i64 0) rfl
    have q1 := cell_n hy5 1 (v := .int .i64 0) rfl
    have q2 := cell_n hy5 2 (v := .int .i64 0) rfl
    have q3 := cell_n hy5 3 (v := .int .i64 0) rfl
    have q4 := cell_n hy5 4 (v := .bool false) rfl
    have q5 := cell_n hy5 5 (v := .int .i64 0) rfl
    have g0 := free_n hy5 0
    have g1 := free_n hy5 1
    have g2 := free_n hy5 2
    have g3 := free_n hy5 3
    have g4 := free_n hy5 4
    have g5 := free_n hy5 5
    have HE9 := Lib.hid (setAll_at (xs := [.int .i64 0, .int .i64 0, .int .i64 0, .int .i64 0, .bool false, .int .i64 0]) hy5 [.int .i64 p.node, .int .i64 p.mtch, .int .i64 p.nxt, .int .i64 3, .bool p.active, .int .i64 p.heard] rfl)
    have HB9 := Lib.hid (setAll_below Hb5.out (show B ≤ B + 2 by omega) [.int .i64 p.node, .int .i64 p.mtch, .int .i64 p.nxt, .int .i64 3, .bool p.active, .int .i64 p.heard])
    clear hx5 hy5
    go_wp2_with fail
    change bodyPost _ _ _ Exit.ret _ (setAll W5 (B + 2) [.int .i64 p.node, .int .i64 p.mtch, .int .i64 p.nxt, .int .i64 3, .bool p.active, .int .i64 p.heard])
    generalize setAll W5 (B + 2) [.int .i64 p.node, .int .i64 p.mtch, .int .i64 p.nxt, .int .i64 3, .bool p.active, .int .i64 p.heard] = W9 at HE9 HB9 ⊢
    clear q0 q1 q2 q3 q4 q5 g0 g1 g2 g3 g4 g5 b0 b1 b2 b3 b4 b5
    have e0 := cell_n HE9.out 0 (v := .int .i64 p.node) rfl
    have e1 := cell_n HE9.out 1 (v := .int .i64 p.mtch) rfl
    have e2 := cell_n HE9.out 2 (v := .int .i64 p.nxt) rfl
    have e3 := cell_n HE9.out 3 (v := .int .i64 3) rfl
    have e4 := cell_n HE9.out 4 (v := .bool p.active) rfl
    have e5 := cell_n HE9.out 5 (v := .int .i64 p.heard) rfl
    refine bodyPost_ret (by simp [results, Try.results42, go_sem, e0, e1, e2, e3, e4, e5]; rfl) rfl ?_
    rw [← HP.out]
    exact ⟨by rw [hres], HB9.out⟩
  have t1 : decide (p.nxt ≤ base) = false := decide_eq_false h1
  have H1 : Hid (planE p base L = if p.state = 2 then (⟨p.node, p.mtch, p.nxt + m, 2, p.active, p.heard⟩, P, m, false) else (p, P, n0, false)) := by show _ = _; unfold planE; rw [if_neg h1, hP.out, hD.out, hn0.out, hE.out, hm.out]
  clear h1 k1 k2 k3 k4 k5
  go_upto_region 5 with fail
  try rw [w1]
  go_wp2_with fail
  refine HL.out.mono ?_
  rintro e wq ⟨rfl, hbq⟩
  have hx2 : wq.heap[B]? = some (.cells (arrG p) 27 (0, 0)) := (hbq.block _ (lt_of_block hx)).trans hx
  have hl2 : wq.heap[B + 1]? = some (.cells (oLog base bt (.slice ao es.length cap)) 33 (0, 0)) := (hbq.block _ (lt_of_block hl)).trans hl
  have hy2 : wq.heap[B + 2]? = some (.cells #[.int .i64 0, .int .i64 0, .int .i64 0, .int .i64 0, .bool false, .int .i64 0] 27 (0, 0)) := (hbq.block _ (lt_of_block hy)).trans hy
  have Hb2 : Hid (Below B w wq) := Hb.out.trans (hbq.mono HBW.out)
  clear hbq hx hl hy d0 d1 d2 c2 hl2
  dsimp only
  have c1 := cell_n hx2 1 (v := .int .i64 p.mtch) rfl
  have c2 := cell_n hx2 2 (v := .int .i64 p.nxt) rfl
  have c3 := cell_n hx2 3 (v := .int .i64 p.state) rfl
  by_cases h3 : 8 < D
  · have t3 : decide (8 < D) = true := decide_eq_true h3
    have hn3 : n0 = 8 := by have := hn0.out; omega
    by_cases h2 : p.state = 2
    · have t2 : (p.state == 2) = true := by rw [h2]; rfl
      have t2' : (p.state != 2) = false := by rw [h2]; rfl
      by_cases h4 : E < 8
      · have t4 : decide (E < 8) = true := decide_eq_true h4
        by_cases h6 : E < 0
        · have t6 : decide (E < 0) = true := decide_eq_true h6
          have hmk : m = 0 := by have := hm.out; omega
          clear h3 h4 hn3
          have hres : planE p base L = (⟨p.node, p.mtch, (p.nxt), 2, p.active, p.heard⟩, P, 0, false) := by rw [H1.out, if_pos h2, hmk]; simp
          rw [hmk, Int.add_zero] at w5
          have s2 := h2
          have f2 := free_n hx2 2
          have hx2' : wq.heap[B]? = some (.cells (arrG ⟨p.node, p.mtch, p.nxt, 2, p.active, p.heard⟩) 27 (0, 0)) := by rw [hx2]; unfold arrG; rw [s2]
          clear hx2 s2 h2 hmk h6
          obtain ⟨W5, hW5⟩ := hide (wq.setCell ⟨B, 2, none⟩ (.int .i64 (p.nxt)))
          have hx5 : W5.heap[B]? = some (.cells (arrG ⟨p.node, p.mtch, (p.nxt), 2, p.active, p.heard⟩) 27 (0, 0)) := by rw [← hW5.out, heap_setCell]; simp [hx2', storeIn]
          have hy5 : W5.heap[B + 2]? = some (.cells #[.int .i64 0, .int .i64 0, .int .i64 0, .int .i64 0, .bool false, .int .i64 0] 27 (0, 0)) := by rw [← hW5.out]; exact hp_set_other hy2 (by show B ≠ B + 2; omega)
          have Hb5 : Hid (Below B w W5) := by show Below _ _ _; rw [← hW5.out]; exact Hb2.out.setCell (p := ⟨B, 2, none⟩) (Nat.le_refl _) _
          clear hx2' hy2
          go_upto_region 6 with fail
          try rw [w2]
          go_upto_region 12 with fail
          try rw [w3]
          try rw [w4]
          go_upto_region 15 with fail
          rw [hW5.out]
          clear c1 c2 c3 f2
          have b0 := cell_n hx5 0 (v := .int .i64 p.node) rfl
          have b1 := cell_n hx5 1 (v := .int .i64 p.mtch) rfl
          have b2 := cell_n hx5 2 (v := .int .i64 (p.nxt)) rfl
          have b3 := cell_n hx5 3 (v := .int .i64 2) rfl
          have b4 := cell_n hx5 4 (v := .bool p.active) rfl
          have b5 := cell_n hx5 5 (v := .int .i64 p.heard) rfl
          have q0 := cell_n hy5 0 (v := .int .i64 0) rfl
          have q1 := cell_n hy5 1 (v := .int .i64 0) rfl
          have q2 := cell_n hy5 2 (v := .int .i64 0) rfl
          have q3 := cell_n hy5 3 (v := .int .i64 0) rfl
          have q4 := cell_n hy5 4 (v := .bool false) rfl
          have q5 := cell_n hy5 5 (v := .int .i64 0) rfl
          have g0 := free_n hy5 0
          have g1 := free_n hy5 1
          have g2 := free_n hy5 2
          have g3 := free_n hy5 3
          have g4 := free_n hy5 4
          have g5 := free_n hy5 5
          have HE9 := Lib.hid (setAll_at (xs := [.int .i64 0, .int .i64 0, .int .i64 0, .int .i64 0, .bool false, .int .i64 0]) hy5 [.int .i64 p.node, .int .i64 p.mtch, .int .i64 (p.nxt), .int .i64 2, .bool p.active, .int .i64 p.heard] rfl)
          have HB9 := Lib.hid (setAll_below Hb5.out (show B ≤ B + 2 by omega) [.int .i64 p.node, .int .i64 p.mtch, .int .i64 (p.nxt), .int .i64 2, .bool p.active, .int .i64 p.heard])
          clear hx5 hy5
          go_wp2_with fail
          change bodyPost _ _ _ Exit.ret _ (setAll W5 (B + 2) [.int .i64 p.node, .int .i64 p.mtch, .int .i64 (p.nxt), .int .i64 2, .bool p.active, .int .i64 p.heard])
          generalize setAll W5 (B + 2) [.int .i64 p.node, .int .i64 p.mtch, .int .i64 (p.nxt), .int .i64 2, .bool p.active, .int .i64 p.heard] = W9 at HE9 HB9 ⊢
          clear q0 q1 q2 q3 q4 q5 g0 g1 g2 g3 g4 g5 b0 b1 b2 b3 b4 b5
          have e0 := cell_n HE9.out 0 (v := .int .i64 p.node) rfl
          have e1 := cell_n HE9.out 1 (v := .int .i64 p.mtch) rfl
          have e2 := cell_n HE9.out 2 (v := .int .i64 (p.nxt)) rfl
          have e3 := cell_n HE9.out 3 (v := .int .i64 2) rfl
          have e4 := cell_n HE9.out 4 (v := .bool p.active) rfl
          have e5 := cell_n HE9.out 5 (v := .int .i64 p.heard) rfl
          refine bodyPost_ret (by simp [results, Try.results42, go_sem, e0, e1, e2, e3, e4, e5]; rfl) rfl ?_
          rw [← HP.out]
          exact ⟨by rw [hres], HB9.out⟩
        · have t6 : decide (E < 0) = false := decide_eq_false h6
          have hmk : m = E := by have := hm.out; omega
          clear h3 h4 hn3
          have hres : planE p base L = (⟨p.node, p.mtch, (p.nxt + E), 2, p.active, p.heard⟩, P, E, false) := by rw [H1.out, if_pos h2, hmk]
          rw [hmk] at w5
          have s2 := h2
          have f2 := free_n hx2 2
          have hx2' : wq.heap[B]? = some (.cells (arrG ⟨p.node, p.mtch, p.nxt, 2, p.active, p.heard⟩) 27 (0, 0)) := by rw [hx2]; unfold arrG; rw [s2]
          clear hx2 s2 h2 hmk h6
          obtain ⟨W5, hW5⟩ := hide (wq.setCell ⟨B, 2, none⟩ (.int .i64 (p.nxt + E)))
          have hx5 : W5.heap[B]? = some (.cells (arrG ⟨p.node, p.mtch, (p.nxt + E), 2, p.active, p.heard⟩) 27 (0, 0)) := by rw [← hW5.out, heap_setCell]; simp [hx2', storeIn]
          have hy5 : W5.heap[B + 2]? = some (.cells #[.int .i64 0, .int .i64 0, .int .i64 0, .int .i64 0, .bool false, .int .i64 0] 27 (0, 0)) := by rw [← hW5.out]; exact hp_set_other hy2 (by show B ≠ B + 2; omega)
          have Hb5 : Hid (Below B w W5) := by show Below _ _ _; rw [← hW5.out]; exact Hb2.out.setCell (p := ⟨B, 2, none⟩) (Nat.le_refl _) _
          clear hx2' hy2
          go_upto_region 6 with fail
          try rw [w2]
          go_upto_region 12 with fail
          try rw [w3]
          try rw [w4]
          go_upto_region 15 with fail
          rw [hW5.out]
          clear c1 c2 c3 f2
          have b0 := cell_n hx5 0 (v := .int .i64 p.node) rfl
          have b1 := cell_n hx5 1 (v := .int .i64 p.mtch) rfl
          have b2 := cell_n hx5 2 (v := .int .i64 (p.nxt + E)) rfl
          have b3 := cell_n hx5 3 (v := .int .i64 2) rfl
          have b4 := cell_n hx5 4 (v := .bool p.active) rfl
          have b5 := cell_n hx5 5 (v := .int .i64 p.heard) rfl
          have q0 := cell_n hy5 0 (v := .int .i64 0) rfl
          have q1 := cell_n hy5 1 (v := .int .i64 0) rfl
          have q2 := cell_n hy5 2 (v := .int .i64 0) rfl
          have q3 := cell_n hy5 3 (v := .int .i64 0) rfl
          have q4 := cell_n hy5 4 (v := .bool false) rfl
          have q5 := cell_n hy5 5 (v := .int .i64 0) rfl
          have g0 := free_n hy5 0
          have g1 := free_n hy5 1
          have g2 := free_n hy5 2
          have g3 := free_n hy5 3
          have g4 := free_n hy5 4
          have g5 := free_n hy5 5
          have HE9 := Lib.hid (setAll_at (xs := [.int .i64 0, .int .i64 0, .int .i64 0, .int .i64 0, .bool false, .int .i64 0]) hy5 [.int .i64 p.node, .int .i64 p.mtch, .int .i64 (p.nxt + E), .int .i64 2, .bool p.active, .int .i64 p.heard] rfl)
          have HB9 := Lib.hid (setAll_below Hb5.out (show B ≤ B + 2 by omega) [.int .i64 p.node, .int .i64 p.mtch, .int .i64 (p.nxt + E), .int .i64 2, .bool p.active, .int .i64 p.heard])
          clear hx5 hy5
          go_wp2_with fail
          change bodyPost _ _ _ Exit.ret _ (setAll W5 (B + 2) [.int .i64 p.node, .int .i64 p.mtch, .int .i64 (p.nxt + E), .int .i64 2, .bool p.active, .int .i64 p.heard])
          generalize setAll W5 (B + 2) [.int .i64 p.node, .int .i64 p.mtch, .int .i64 (p.nxt + E), .int .i64 2, .bool p.active, .int .i64 p.heard] = W9 at HE9 HB9 ⊢
          clear q0 q1 q2 q3 q4 q5 g0 g1 g2 g3 g4 g5 b0 b1 b2 b3 b4 b5
          have e0 := cell_n HE9.out 0 (v := .int .i64 p.node) rfl
          have e1 := cell_n HE9.out 1 (v := .int .i64 p.mtch) rfl
          have e2 := cell_n HE9.out 2 (v := .int .i64 (p.nxt + E)) rfl
          have e3 := cell_n HE9.out 3 (v := .int .i64 2) rfl
          have e4 := cell_n HE9.out 4 (v := .bool p.active) rfl
          have e5 := cell_n HE9.out 5 (v := .int .i64 p.heard) rfl
          refine bodyPost_ret (by simp [results, Try.results42, go_sem, e0, e1, e2, e3, e4, e5]; rfl) rfl ?_
          rw [← HP.out]
          exact ⟨by rw [hres], HB9.out⟩
      · have t4 : decide (E < 8) = false := decide_eq_false h4
        have h6 : True := trivial
        have hmk : m = 8 := by have := hm.out; omega
        clear h3 h4 hn3
        have hres : planE p base L = (⟨p.node, p.mtch, (p.nxt + 8), 2, p.active, p.heard⟩, P, 8, false) := by rw [H1.out, if_pos h2, hmk]
        rw [hmk] at w5
        have s2 := h2
        have f2 := free_n hx2 2
        have hx2' : wq.heap[B]? = some (.cells (arrG ⟨p.node, p.mtch, p.nxt, 2, p.active, p.heard⟩) 27 (0, 0)) := by rw [hx2]; unfold arrG; rw [s2]
        clear hx2 s2 h2 hmk h6
        obtain ⟨W5, hW5⟩ := hide (wq.setCell ⟨B, 2, none⟩ (.int .i64 (p.nxt + 8)))
        have hx5 : W5.heap[B]? = some (.cells (arrG ⟨p.node, p.mtch, (p.nxt + 8), 2, p.active, p.heard⟩) 27 (0, 0)) := by rw [← hW5.out, heap_setCell]; simp [hx2', storeIn]
        have hy5 : W5.heap[B + 2]? = some (.cells #[.int .i64 0, .int .i64 0, .int .i64 0, .int .i64 0, .bool false, .int .i64 0] 27 (0, 0)) := by rw [← hW5.out]; exact hp_set_other hy2 (by show B ≠ B + 2; omega)
        have Hb5 : Hid (Below B w W5) := by show Below _ _ _; rw [← hW5.out]; exact Hb2.out.setCell (p := ⟨B, 2, none⟩) (Nat.le_refl _) _
        clear hx2' hy2
        go_upto_region 6 with fail
        try rw [w2]
        go_upto_region 12 with fail
        try rw [w3]
        try rw [w4]
        go_upto_region 15 with fail
        rw [hW5.out]
        clear c1 c2 c3 f2
        have b0 := cell_n hx5 0 (v := .int .i64 p.node) rfl
        have b1 := cell_n hx5 1 (v := .int .i64 p.mtch) rfl
        have b2 := cell_n hx5 2 (v := .int .i64 (p.nxt + 8)) rfl
        have b3 := cell_n hx5 3 (v := .int .i64 2) rfl
        have b4 := cell_n hx5 4 (v := .bool p.active) rfl
        have b5 := cell_n hx5 5 (v := .int .i64 p.heard) rfl
        have q0 := cell_n hy5 0 (v := .int .i64 0) rfl
        have q1 := cell_n hy5 1 (v := .int .i64 0) rfl
        have q2 := cell_n hy5 2 (v := .int .i64 0) rfl
        have q3 := cell_n hy5 3 (v := .int .i64 0) rfl
        have q4 := cell_n hy5 4 (v := .bool false) rfl
        have q5 := cell_n hy5 5 (v := .int .i64 0) rfl
        have g0 := free_n hy5 0
        have g1 := free_n hy5 1
        have g2 := free_n hy5 2
        have g3 := free_n hy5 3
        have g4 := free_n hy5 4
        have g5 := free_n hy5 5
        have HE9 := Lib.hid (setAll_at (xs := [.int .i64 0, .int .i64 0, .int .i64 0, .int .i64 0, .bool false, .int .i64 0]) hy5 [.int .i64 p.node, .int .i64 p.mtch, .int .i64 (p.nxt + 8), .int .i64 2, .bool p.active, .int .i64 p.heard] rfl)
        have HB9 := Lib.hid (setAll_below Hb5.out (show B ≤ B + 2 by omega) [.int .i64 p.node, .int .i64 p.mtch, .int .i64 (p.nxt + 8), .int .i64 2, .bool p.active, .int .i64 p.heard])
        clear hx5 hy5
        go_wp2_with fail
        change bodyPost _ _ _ Exit.ret _ (setAll W5 (B + 2) [.int .i64 p.node, .int .i64 p.mtch, .int .i64 (p.nxt + 8), .int .i64 2, .bool p.active, .int .i64 p.heard])
        generalize setAll W5 (B + 2) [.int .i64 p.node, .int .i64 p.mtch, .int .i64 (p.nxt + 8), .int .i64 2, .bool p.active, .int .i64 p.heard] = W9 at HE9 HB9 ⊢
        clear q0 q1 q2 q3 q4 q5 g0 g1 g2 g3 g4 g5 b0 b1 b2 b3 b4 b5
        have e0 := cell_n HE9.out 0 (v := .int .i64 p.node) rfl
        have e1 := cell_n HE9.out 1 (v := .int .i64 p.mtch) rfl
        have e2 := cell_n HE9.out 2 (v := .int .i64 (p.nxt + 8)) rfl
        have e3 := cell_n HE9.out 3 (v := .int .i64 2) rfl
        have e4 := cell_n HE9.out 4 (v := .bool p.active) rfl
        have e5 := cell_n HE9.out 5 (v := .int .i64 p.heard) rfl
        refine bodyPost_ret (by simp [results, Try.results42, go_sem, e0, e1, e2, e3, e4, e5]; rfl) rfl ?_
        rw [← HP.out]
        exact ⟨by rw [hres], HB9.out⟩
    · have t2 : (p.state == 2) = false := beq_eq_false_iff_ne.mpr h2
      have t2' : (p.state != 2) = true := by rw [bne, t2]; rfl
      have hres : planE p base L = (p, P, 8, false) := by rw [H1.out, if_neg h2, hn3]
      clear h2 h3 hn3 w3 w4 w5
      go_upto_region 6 with fail
      try rw [w2]
      go_upto_region 9 with fail
      clear c1 c2 c3
      have b0 := cell_n hx2 0 (v := .int .i64 p.node) rfl
      have b1 := cell_n hx2 1 (v := .int .i64 p.mtch) rfl
      have b2 := cell_n hx2 2 (v := .int .i64 p.nxt) rfl
      have b3 := cell_n hx2 3 (v := .int .i64 p.state) rfl
      have b4 := cell_n hx2 4 (v := .bool p.active) rfl
      have b5 := cell_n hx2 5 (v := .int .i64 p.heard) rfl
      have q0 := cell_n hy2 0 (v := .int .i64 0) rfl
      have q1 := cell_n hy2 1 (v := .int .i64 0) rfl
      have q2 := cell_n hy2 2 (v := .int .i64 0) rfl
      have q3 := cell_n hy2 3 (v := .int .i64 0) rfl
      have q4 := cell_n hy2 4 (v := .bool false) rfl
      have q5 := cell_n hy2 5 (v := .int .i64 0) rfl
      have g0 := free_n hy2 0
      have g1 := free_n hy2 1
      have g2 := free_n hy2 2
      have g3 := free_n hy2 3
      have g4 := free_n hy2 4
      have g5 := free_n hy2 5
      have HE9 := Lib.hid (setAll_at (xs := [.int .i64 0, .int .i64 0, .int .i64 0, .int .i64 0, .bool false, .int .i64 0]) hy2 [.int .i64 p.node, .int .i64 p.mtch, .int .i64 p.nxt, .int .i64 p.state, .bool p.active, .int .i64 p.heard] rfl)
      have HB9 := Lib.hid (setAll_below Hb2.out (show B ≤ B + 2 by omega) [.int .i64 p.node, .int .i64 p.mtch, .int .i64 p.nxt, .int .i64 p.state, .bool p.active, .int .i64 p.heard])
      clear hx2 hy2
      go_wp2_with fail
      change bodyPost _ _ _ Exit.ret _ (setAll wq (B + 2) [.int .i64 p.node, .int .i64 p.mtch, .int .i64 p.nxt, .int .i64 p.state, .bool p.active, .int .i64 p.heard])
      generalize setAll wq (B + 2) [.int .i64 p.node, .int .i64 p.mtch, .int .i64 p.nxt, .int .i64 p.state, .bool p.active, .int .i64 p.heard] = W9 at HE9 HB9 ⊢
      clear q0 q1 q2 q3 q4 q5 g0 g1 g2 g3 g4 g5 b0 b1 b2 b3 b4 b5
      have e0 := cell_n HE9.out 0 (v := .int .i64 p.node) rfl
      have e1 := cell_n HE9.out 1 (v := .int .i64 p.mtch) rfl
      have e2 := cell_n HE9.out 2 (v := .int .i64 p.nxt) rfl
      have e3 := cell_n HE9.out 3 (v := .int .i64 p.state) rfl
      have e4 := cell_n HE9.out 4 (v := .bool p.active) rfl
      have e5 := cell_n HE9.out 5 (v := .int .i64 p.heard) rfl
      refine bodyPost_ret (by simp [results, Try.results42, go_sem, e0, e1, e2, e3, e4, e5]; rfl) rfl ?_
      rw [← HP.out]
      exact ⟨by rw [hres], HB9.out⟩
  · have t3 : decide (8 < D) = false := decide_eq_false h3
    have hn3 : n0 = D := by have := hn0.out; omega
    by_cases h2 : p.state = 2
    · have t2 : (p.state == 2) = true := by rw [h2]; rfl
      have t2' : (p.state != 2) = false := by rw [h2]; rfl
      by_cases h4 : E < D
      · have t4 : decide (E < D) = true := decide_eq_true h4
        by_cases h6 : E < 0
        · have t6 : decide (E < 0) = true := decide_eq_true h6
          have hmk : m = 0 := by have := hm.out; omega
          clear h3 h4 hn3
          have hres : planE p base L = (⟨p.node, p.mtch, (p.nxt), 2, p.active, p.heard⟩, P, 0, false) := by rw [H1.out, if_pos h2, hmk]; simp
          rw [hmk, Int.add_zero] at w5
          have s2 := h2
          have f2 := free_n hx2 2
          have hx2' : wq.heap[B]? = some (.cells (arrG ⟨p.node, p.mtch, p.nxt, 2, p.active, p.heard⟩) 27 (0, 0)) := by rw [hx2]; unfold arrG; rw [s2]
          clear hx2 s2 h2 hmk h6
          obtain ⟨W5, hW5⟩ := hide (wq.setCell ⟨B, 2, none⟩ (.int .i64 (p.nxt)))
          have hx5 : W5.heap[B]? = some (.cells (arrG ⟨p.node, p.mtch, (p.nxt), 2, p.active, p.heard⟩) 27 (0, 0)) := by rw [← hW5.out, heap_setCell]; simp [hx2', storeIn]
          have hy5 : W5.heap[B + 2]? = some (.cells #[.int .i64 0, .int .i64 0, .int .i64 0, .int .i64 0, .bool false, .int .i64 0] 27 (0, 0)) := by rw [← hW5.out]; exact hp_set_other hy2 (by show B ≠ B + 2; omega)
          have Hb5 : Hid (Below B w W5) := by show Below _ _ _; rw [← hW5.out]; exact Hb2.out.setCell (p := ⟨B, 2, none⟩) (Nat.le_refl _) _
          clear hx2' hy2
          go_upto_region 6 with fail
          try rw [w2]
          go_upto_region 12 with fail
          try rw [w3]
          try rw [w4]
          go_upto_region 15 with fail
          rw [hW5.out]
          clear c1 c2 c3 f2
          have b0 := cell_n hx5 0 (v := .int .i64 p.node) rfl
          have b1 := cell_n hx5 1 (v := .int .i64 p.mtch) rfl
          have b2 := cell_n hx5 2 (v := .int .i64 (p.nxt)) rfl
          have b3 := cell_n hx5 3 (v := .int .i64 2) rfl
          have b4 := cell_n hx5 4 (v := .bool p.active) rfl
          have b5 := cell_n hx5 5 (v := .int .i64 p.heard) rfl
          have q0 := cell_n hy5 0 (v := .int .i64 0) rfl
          have q1 := cell_n hy5 1 (v := .int .i64 0) rfl
          have q2 := cell_n hy5 2 (v := .int .i64 0) rfl
          have q3 := cell_n hy5 3 (v := .int .i64 0) rfl
          have q4 := cell_n hy5 4 (v := .bool false) rfl
          have q5 := cell_n hy5 5 (v := .int .i64 0) rfl
          have g0 := free_n hy5 0
          have g1 := free_n hy5 1
          have g2 := free_n hy5 2
          have g3 := free_n hy5 3
          have g4 := free_n hy5 4
          have g5 := free_n hy5 5
          have HE9 := Lib.hid (setAll_at (xs := [.int .i64 0, .int .i64 0, .int .i64 0, .int .i64 0, .bool false, .int .i64 0]) hy5 [.int .i64 p.node, .int .i64 p.mtch, .int .i64 (p.nxt), .int .i64 2, .bool p.active, .int .i64 p.heard] rfl)
          have HB9 := Lib.hid (setAll_below Hb5.out (show B ≤ B + 2 by omega) [.int .i64 p.node, .int .i64 p.mtch, .int .i64 (p.nxt), .int .i64 2, .bool p.active, .int .i64 p.heard])
          clear hx5 hy5
          go_wp2_with fail
          change bodyPost _ _ _ Exit.ret _ (setAll W5 (B + 2) [.int .i64 p.node, .int .i64 p.mtch, .int .i64 (p.nxt), .int .i64 2, .bool p.active, .int .i64 p.heard])
          generalize setAll W5 (B + 2) [.int .i64 p.node, .int .i64 p.mtch, .int .i64 (p.nxt), .int .i64 2, .bool p.active, .int .i64 p.heard] = W9 at HE9 HB9 ⊢
          clear q0 q1 q2 q3 q4 q5 g0 g1 g2 g3 g4 g5 b0 b1 b2 b3 b4 b5
          have e0 := cell_n HE9.out 0 (v := .int .i64 p.node) rfl
          have e1 := cell_n HE9.out 1 (v := .int .i64 p.mtch) rfl
          have e2 := cell_n HE9.out 2 (v := .int .i64 (p.nxt)) rfl
          have e3 := cell_n HE9.out 3 (v := .int .i64 2) rfl
          have e4 := cell_n HE9.out 4 (v := .bool p.active) rfl
          have e5 := cell_n HE9.out 5 (v := .int .i64 p.heard) rfl
          refine bodyPost_ret (by simp [results, Try.results42, go_sem, e0, e1, e2, e3, e4, e5]; rfl) rfl ?_
          rw [← HP.out]
          exact ⟨by rw [hres], HB9.out⟩
        · have t6 : decide (E < 0) = false := decide_eq_false h6
          have hmk : m = E := by have := hm.out; omega
          clear h3 h4 hn3
          have hres : planE p base L = (⟨p.node, p.mtch, (p.nxt + E), 2, p.active, p.heard⟩, P, E, false) := by rw [H1.out, if_pos h2, hmk]
          rw [hmk] at w5
          have s2 := h2
          have f2 := free_n hx2 2
          have hx2' : wq.heap[B]? = some (.cells (arrG ⟨p.node, p.mtch, p.nxt, 2, p.active, p.heard⟩) 27 (0, 0)) := by rw [hx2]; unfold arrG; rw [s2]
          clear hx2 s2 h2 hmk h6
          obtain ⟨W5, hW5⟩ := hide (wq.setCell ⟨B, 2, none⟩ (.int .i64 (p.nxt + E)))
          have hx5 : W5.heap[B]? = some (.cells (arrG ⟨p.node, p.mtch, (p.nxt + E), 2, p.active, p.heard⟩) 27 (0, 0)) := by rw [← hW5.out, heap_setCell]; simp [hx2', storeIn]
          have hy5 : W5.heap[B + 2]? = some (.cells #[.int .i64 0, .int .i64 0, .int .i64 0, .int .i64 0, .bool false, .int .i64 0] 27 (0, 0)) := by rw [← hW5.out]; exact hp_set_other hy2 (by show B ≠ B + 2; omega)
          have Hb5 : Hid (Below B w W5) := by show Below _ _ _; rw [← hW5.out]; exact Hb2.out.setCell (p := ⟨B, 2, none⟩) (Nat.le_refl _) _
          clear hx2' hy2
          go_upto_region 6 with fail
          try rw [w2]
          go_upto_region 12 with fail
          try rw [w3]
          try rw [w4]
          go_upto_region 15 with fail
          rw [hW5.out]
          clear c1 c2 c3 f2
          have b0 := cell_n hx5 0 (v := .int .i64 p.node) rfl
          have b1 := cell_n hx5 1 (v := .int .i64 p.mtch) rfl
          have b2 := cell_n hx5 2 (v := .int .i64 (p.nxt + E)) rfl
          have b3 := cell_n hx5 3 (v := .int .i64 2) rfl
          have b4 := cell_n hx5 4 (v := .bool p.active) rfl
          have b5 := cell_n hx5 5 (v := .int .i64 p.heard) rfl
          have q0 := cell_n hy5 0 (v := .int .i64 0) rfl
          have q1 := cell_n hy5 1 (v := .int .i64 0) rfl
          have q2 := cell_n hy5 2 (v := .int .i64 0) rfl
          have q3 := cell_n hy5 3 (v := .int .i64 0) rfl
          have q4 := cell_n hy5 4 (v := .bool false) rfl
          have q5 := cell_n hy5 5 (v := .int .i64 0) rfl
          have g0 := free_n hy5 0
          have g1 := free_n hy5 1
          have g2 := free_n hy5 2
          have g3 := free_n hy5 3
          have g4 := free_n hy5 4
          have g5 := free_n hy5 5
          have HE9 := Lib.hid (setAll_at (xs := [.int .i64 0, .int .i64 0, .int .i64 0, .int .i64 0, .bool false, .int .i64 0]) hy5 [.int .i64 p.node, .int .i64 p.mtch, .int .i64 (p.nxt + E), .int .i64 2, .bool p.active, .int .i64 p.heard] rfl)
          have HB9 := Lib.hid (setAll_below Hb5.out (show B ≤ B + 2 by omega) [.int .i64 p.node, .int .i64 p.mtch, .int .i64 (p.nxt + E), .int .i64 2, .bool p.active, .int .i64 p.heard])
          clear hx5 hy5
          go_wp2_with fail
          change bodyPost _ _ _ Exit.ret _ (setAll W5 (B + 2) [.int .i64 p.node, .int .i64 p.mtch, .int .i64 (p.nxt + E), .int .i64 2, .bool p.active, .int .i64 p.heard])
          generalize setAll W5 (B + 2) [.int .i64 p.node, .int .i64 p.mtch, .int .i64 (p.nxt + E), .int .i64 2, .bool p.active, .int .i64 p.heard] = W9 at HE9 HB9 ⊢
          clear q0 q1 q2 q3 q4 q5 g0 g1 g2 g3 g4 g5 b0 b1 b2 b3 b4 b5
          have e0 := cell_n HE9.out 0 (v := .int .i64 p.node) rfl
          have e1 := cell_n HE9.out 1 (v := .int .i64 p.mtch) rfl
          have e2 := cell_n HE9.out 2 (v := .int .i64 (p.nxt + E)) rfl
          have e3 := cell_n HE9.out 3 (v := .int .i64 2) rfl
          have e4 := cell_n HE9.out 4 (v := .bool p.active) rfl
          have e5 := cell_n HE9.out 5 (v := .int .i64 p.heard) rfl
          refine bodyPost_ret (by simp [results, Try.results42, go_sem, e0, e1, e2, e3, e4, e5]; rfl) rfl ?_
          rw [← HP.out]
          exact ⟨by rw [hres], HB9.out⟩
      · have t4 : decide (E < D) = false := decide_eq_false h4
        by_cases h6 : D < 0
        · have t6 : decide (D < 0) = true := decide_eq_true h6
          have hmk : m = 0 := by have := hm.out; omega
          clear h3 h4 hn3
          have hres : planE p base L = (⟨p.node, p.mtch, (p.nxt), 2, p.active, p.heard⟩, P, 0, false) := by rw [H1.out, if_pos h2, hmk]; simp
          rw [hmk, Int.add_zero] at w5
          have s2 := h2
          have f2 := free_n hx2 2
          have hx2' : wq.heap[B]? = some (.cells (arrG ⟨p.node, p.mtch, p.nxt, 2, p.active, p.heard⟩) 27 (0, 0)) := by rw [hx2]; unfold arrG; rw [s2]
          clear hx2 s2 h2 hmk h6
          obtain ⟨W5, hW5⟩ := hide (wq.setCell ⟨B, 2, none⟩ (.int .i64 (p.nxt)))
          have hx5 : W5.heap[B]? = some (.cells (arrG ⟨p.node, p.mtch, (p.nxt), 2, p.active, p.heard⟩) 27 (0, 0)) := by rw [← hW5.out, heap_setCell]; simp [hx2', storeIn]
          have hy5 : W5.heap[B + 2]? = some (.cells #[.int .i64 0, .int .i64 0, .int .i64 0, .int .i64 0, .bool false, .int .i64 0] 27 (0, 0)) := by rw [← hW5.out]; exact hp_set_other hy2 (by show B ≠ B + 2; omega)
          have Hb5 : Hid (Below B w W5) := by show Below _ _ _; rw [← hW5.out]; exact Hb2.out.setCell (p := ⟨B, 2, none⟩) (Nat.le_refl _) _
          clear hx2' hy2
          go_upto_region 6 with fail
          try rw [w2]
          go_upto_region 12 with fail
          try rw [w3]
          try rw [w4]
          go_upto_region 15 with fail
          rw [hW5.out]
          clear c1 c2 c3 f2
          have b0 := cell_n hx5 0 (v := .int .i64 p.node) rfl
          have b1 := cell_n hx5 1 (v := .int .i64 p.mtch) rfl
          have b2 := cell_n hx5 2 (v := .int .i64 (p.nxt)) rfl
          have b3 := cell_n hx5 3 (v := .int .i64 2) rfl
          have b4 := cell_n hx5 4 (v := .bool p.active) rfl
          have b5 := cell_n hx5 5 (v := .int .i64 p.heard) rfl
          have q0 := cell_n hy5 0 (v := .int .i64 0) rfl
          have q1 := cell_n hy5 1 (v := .int .i64 0) rfl
          have q2 := cell_n hy5 2 (v := .int .i64 0) rfl
          have q3 := cell_n hy5 3 (v := .int .i64 0) rfl
          have q4 := cell_n hy5 4 (v := .bool false) rfl
          have q5 := cell_n hy5 5 (v := .int .i64 0) rfl
          have g0 := free_n hy5 0
          have g1 := free_n hy5 1
          have g2 := free_n hy5 2
          have g3 := free_n hy5 3
          have g4 := free_n hy5 4
          have g5 := free_n hy5 5
          have HE9 := Lib.hid (setAll_at (xs := [.int .i64 0, .int .i64 0, .int .i64 0, .int .i64 0, .bool false, .int .i64 0]) hy5 [.int .i64 p.node, .int .i64 p.mtch, .int .i64 (p.nxt), .int .i64 2, .bool p.active, .int .i64 p.heard] rfl)
          have HB9 := Lib.hid (setAll_below Hb5.out (show B ≤ B + 2 by omega) [.int .i64 p.node, .int .i64 p.mtch, .int .i64 (p.nxt), .int .i64 2, .bool p.active, .int .i64 p.heard])
          clear hx5 hy5
          go_wp2_with fail
          change bodyPost _ _ _ Exit.ret _ (setAll W5 (B + 2) [.int .i64 p.node, .int .i64 p.mtch, .int .i64 (p.nxt), .int .i64 2, .bool p.active, .int .i64 p.heard])
          generalize setAll W5 (B + 2) [.int .i64 p.node, .int .i64 p.mtch, .int .i64 (p.nxt), .int .i64 2, .bool p.active, .int .i64 p.heard] = W9 at HE9 HB9 ⊢
          clear q0 q1 q2 q3 q4 q5 g0 g1 g2 g3 g4 g5 b0 b1 b2 b3 b4 b5
          have e0 := cell_n HE9.out 0 (v := .int .i64 p.node) rfl
          have e1 := cell_n HE9.out 1 (v := .int .i64 p.mtch) rfl
          have e2 := cell_n HE9.out 2 (v := .int .i64 (p.nxt)) rfl
          have e3 := cell_n HE9.out 3 (v := .int .i64 2) rfl
          have e4 := cell_n HE9.out 4 (v := .bool p.active) rfl
          have e5 := cell_n HE9.out 5 (v := .int .i64 p.heard) rfl
          refine bodyPost_ret (by simp [results, Try.results42, go_sem, e0, e1, e2, e3, e4, e5]; rfl) rfl ?_
          rw [← HP.out]
          exact ⟨by rw [hres], HB9.out⟩
        · have t6 : decide (D < 0) = false := decide_eq_false h6
          have hmk : m = D := by have := hm.out; omega
          clear h3 h4 hn3
          have hres : planE p base L = (⟨p.node, p.mtch, (p.nxt + D), 2, p.active, p.heard⟩, P, D, false) := by rw [H1.out, if_pos h2, hmk]
          rw [hmk] at w5
          have s2 := h2
          have f2 := free_n hx2 2
          have hx2' : wq.heap[B]? = some (.cells (arrG ⟨p.node, p.mtch, p.nxt, 2, p.active, p.heard⟩) 27 (0, 0)) := by rw [hx2]; unfold arrG; rw [s2]
          clear hx2 s2 h2 hmk h6
          obtain ⟨W5, hW5⟩ := hide (wq.setCell ⟨B, 2, none⟩ (.int .i64 (p.nxt + D)))
          have hx5 : W5.heap[B]? = some (.cells (arrG ⟨p.node, p.mtch, (p.nxt + D), 2, p.active, p.heard⟩) 27 (0, 0)) := by rw [← hW5.out, heap_setCell]; simp [hx2', storeIn]
          have hy5 : W5.heap[B + 2]? = some (.cells #[.int .i64 0, .int .i64 0, .int .i64 0, .int .i64 0, .bool false, .int .i64 0] 27 (0, 0)) := by rw [← hW5.out]; exact hp_set_other hy2 (by show B ≠ B + 2; omega)
          have Hb5 : Hid (Below B w W5) := by show Below _ _ _; rw [← hW5.out]; exact Hb2.out.setCell (p := ⟨B, 2, none⟩) (Nat.le_refl _) _
          clear hx2' hy2
          go_upto_region 6 with fail
          try rw [w2]
          go_upto_region 12 with fail
          try rw [w3]
          try rw [w4]
          go_upto_region 15 with fail
          rw [hW5.out]
          clear c1 c2 c3 f2
          have b0 := cell_n hx5 0 (v := .int .i64 p.node) rfl
          have b1 := cell_n hx5 1 (v := .int .i64 p.mtch) rfl
          have b2 := cell_n hx5 2 (v := .int .i64 (p.nxt + D)) rfl
          have b3 := cell_n hx5 3 (v := .int .i64 2) rfl
          have b4 := cell_n hx5 4 (v := .bool p.active) rfl
          have b5 := cell_n hx5 5 (v := .int .i64 p.heard) rfl
          have q0 := cell_n hy5 0 (v := .int .i64 0) rfl
          have q1 := cell_n hy5 1 (v := .int .i64 0) rfl
          have q2 := cell_n hy5 2 (v := .int .i64 0) rfl
          have q3 := cell_n hy5 3 (v := .int .i64 0) rfl
          have q4 := cell_n hy5 4 (v := .bool false) rfl
          have q5 := cell_n hy5 5 (v := .int .i64 0) rfl
          have g0 := free_n hy5 0
          have g1 := free_n hy5 1
          have g2 := free_n hy5 2
          have g3 := free_n hy5 3
          have g4 := free_n hy5 4
          have g5 := free_n hy5 5
          have HE9 := Lib.hid (setAll_at (xs := [.int .i64 0, .int .i64 0, .int .i64 0, .int .i64 0, .bool false, .int .i64 0]) hy5 [.int .i64 p.node, .int .i64 p.mtch, .int .i64 (p.nxt + D), .int .i64 2, .bool p.active, .int .i64 p.heard] rfl)
          have HB9 := Lib.hid (setAll_below Hb5.out (show B ≤ B + 2 by omega) [.int .i64 p.node, .int .i64 p.mtch, .int .i64 (p.nxt + D), .int .i64 2, .bool p.active, .int .i64 p.heard])
          clear hx5 hy5
          go_wp2_with fail
          change bodyPost _ _ _ Exit.ret _ (setAll W5 (B + 2) [.int .i64 p.node, .int .i64 p.mtch, .int .i64 (p.nxt + D), .int .i64 2, .bool p.active, .int .i64 p.heard])
          generalize setAll W5 (B + 2) [.int .i64 p.node, .int .i64 p.mtch, .int .i64 (p.nxt + D), .int .i64 2, .bool p.active, .int .i64 p.heard] = W9 at HE9 HB9 ⊢
          clear q0 q1 q2 q3 q4 q5 g0 g1 g2 g3 g4 g5 b0 b1 b2 b3 b4 b5
          have e0 := cell_n HE9.out 0 (v := .int .i64 p.node) rfl
          have e1 := cell_n HE9.out 1 (v := .int .i64 p.mtch) rfl
          have e2 := cell_n HE9.out 2 (v := .int .i64 (p.nxt + D)) rfl
          have e3 := cell_n HE9.out 3 (v := .int .i64 2) rfl
          have e4 := cell_n HE9.out 4 (v := .bool p.active) rfl
          have e5 := cell_n HE9.out 5 (v := .int .i64 p.heard) rfl
          refine bodyPost_ret (by simp [results, Try.results42, go_sem, e0, e1, e2, e3, e4, e5]; rfl) rfl ?_
          rw [← HP.out]
          exact ⟨by rw [hres], HB9.out⟩
    · have t2 : (p.state == 2) = false := beq_eq_false_iff_ne.mpr h2
      have t2' : (p.state != 2) = true := by rw [bne, t2]; rfl
      have hres : planE p base L = (p, P, D, false) := by rw [H1.out, if_neg h2, hn3]
      clear h2 h3 hn3 w3 w4 w5
      go_upto_region 6 with fail
      try rw [w2]
      go_upto_region 9 with fail
      clear c1 c2 c3
      have b0 := cell_n hx2 0 (v := .int .i64 p.node) rfl
      have b1 := cell_n hx2 1 (v := .int .i64 p.mtch) rfl
      have b2 := cell_n hx2 2 (v := .int .i64 p.nxt) rfl
      have b3 := cell_n hx2 3 (v := .int .i64 p.state) rfl
      have b4 := cell_n hx2 4 (v := .bool p.active) rfl
      have b5 := cell_n hx2 5 (v := .int .i64 p.heard) rfl
      have q0 := cell_n hy2 0 (v := .int .i64 0) rfl
      have q1 := cell_n hy2 1 (v := .int .i64 0) rfl
      have q2 := cell_n hy2 2 (v := .int .i64 0) rfl
      have q3 := cell_n hy2 3 (v := .int .i64 0) rfl
      have q4 := cell_n hy2 4 (v := .bool false) rfl
      have q5 := cell_n hy2 5 (v := .int .i64 0) rfl
      have g0 := free_n hy2 0
      have g1 := free_n hy2 1
      have g2 := free_n hy2 2
      have g3 := free_n hy2 3
      have g4 := free_n hy2 4
      have g5 := free_n hy2 5
      have HE9 := Lib.hid (setAll_at (xs := [.int .i64 0, .int .i64 0, .int .i64 0, .int .i64 0, .bool false, .int .i64 0]) hy2 [.int .i64 p.node, .int .i64 p.mtch, .int .i64 p.nxt, .int .i64 p.state, .bool p.active, .int .i64 p.heard] rfl)
      have HB9 := Lib.hid (setAll_below Hb2.out (show B ≤ B + 2 by omega) [.int .i64 p.node, .int .i64 p.mtch, .int .i64 p.nxt, .int .i64 p.state, .bool p.active, .int .i64 p.heard])
      clear hx2 hy2
      go_wp2_with fail
      change bodyPost _ _ _ Exit.ret _ (setAll wq (B + 2) [.int .i64 p.node, .int .i64 p.mtch, .int .i64 p.nxt, .int .i64 p.state, .bool p.active, .int .i64 p.heard])
      generalize setAll wq (B + 2) [.int .i64 p.node, .int .i64 p.mtch, .int .i64 p.nxt, .int .i64 p.state, .bool p.active, .int .i64 p.heard] = W9 at HE9 HB9 ⊢
      clear q0 q1 q2 q3 q4 q5 g0 g1 g2 g3 g4 g5 b0 b1 b2 b3 b4 b5
      have e0 := cell_n HE9.out 0 (v := .int .i64 p.node) rfl
      have e1 := cell_n HE9.out 1 (v := .int .i64 p.mtch) rfl
      have e2 := cell_n HE9.out 2 (v := .int .i64 p.nxt) rfl
      have e3 := cell_n HE9.out 3 (v := .int .i64 p.state) rfl
      have e4 := cell_n HE9.out 4 (v := .bool p.active) rfl
      have e5 := cell_n HE9.out 5 (v := .int .i64 p.heard) rfl
      refine bodyPost_ret (by simp [results, Try.results42, go_sem, e0, e1, e2, e3, e4, e5]; rfl) rfl ?_
      rw [← HP.out]
      exact ⟨by rw [hres], HB9.out⟩
end Go.Proofs.Ytgdmcbjlfnjhjaa
