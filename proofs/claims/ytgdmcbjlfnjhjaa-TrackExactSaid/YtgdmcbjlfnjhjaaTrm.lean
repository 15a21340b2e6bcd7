/-
  What a leader knows: Ack; all members of a configuration.
-/
import Derived.Test.YtgdmcbjlfnjhjaaTrk
namespace Go.Proofs.Ytgdmcbjlfnjhjaa
open Go.RowKit Wm Mm
set_option linter.unusedVariables false
set_option linter.unusedSimpArgs false

set_option maxHeartbeats 2000000 in
theorem ack_law (p : ProgP) (index : Int) (w : World) :
    Calls Try.prog 12 #[.agg (arrG p), .int .i64 index] w fun e w' => ∃ q, e = .returned (.agg (arrG q)) ∧ Below w.heap.size w w' := by
  obtain ⟨post, HP⟩ := hide (fun (e : Ending) (w' : World) => ∃ q, e = .returned (.agg (arrG q)) ∧ Below w.heap.size w w')
  rw [HP.out]
  obtain ⟨W, hW⟩ := hide ((w.alloc (.cells (arrG p) 27)).alloc (.cells #[.int .i64 0, .int .i64 0, .int .i64 0, .int .i64 0, .bool false, .int .i64 0] 27))
  have hx : W.heap[w.heap.size]? = some (.cells (arrG p) 27 (0, 0)) := by rw [← hW.out]; exact (hp_past _ _ (by simp)).trans (hp_at _ _ rfl)
  have hy : W.heap[w.heap.size + 1]? = some (.cells #[.int .i64 0, .int .i64 0, .int .i64 0, .int .i64 0, .bool false, .int .i64 0] 27 (0, 0)) := by rw [← hW.out]; exact hp_at _ _ (by simp)
  have Hb : Hid (Below w.heap.size w W) := by show Below _ _ _; rw [← hW.out]; exact ((Below.refl _ _).alloc (Nat.le_refl _) _).alloc (by simp) _
  obtain ⟨B, hB⟩ := hide w.heap.size
  rw [hB.out] at hx hy Hb HP
  have c1 := cell_n hx 1 (v := .int .i64 p.mtch) rfl
  have f1 := free_n hx 1
  obtain ⟨x, hX⟩ := hide (max p.mtch index)
  obtain ⟨W1, hW1⟩ := hide (W.setCell ⟨B, 1, none⟩ (.int .i64 x))
  have hx1 : W1.heap[B]? = some (.cells (arrG ⟨p.node, x, p.nxt, p.state, p.active, p.heard⟩) 27 (0, 0)) := by rw [← hW1.out, heap_setCell]; simp [hx, storeIn]
  have hy1 : W1.heap[B + 1]? = some (.cells #[.int .i64 0, .int .i64 0, .int .i64 0, .int .i64 0, .bool false, .int .i64 0] 27 (0, 0)) := by rw [← hW1.out]; exact hp_set_other hy (by show B ≠ B + 1; omega)
  have Hb1 : Hid (Below B w W1) := by show Below _ _ _; rw [← hW1.out]; exact Hb.out.setCell (p := ⟨B, 1, none⟩) (Nat.le_refl _) _
  clear hx hy
  go_enter Try.func12, Try.ntmps12
  go_upto_region 1 with fail
  rw [hW.out, hB.out]
  go_upto_region 2 with fail
  rw [hX.out, hW1.out]
  clear c1 f1
  have c1 := cell_n hx1 1 (v := .int .i64 x) rfl
  have c2 := cell_n hx1 2 (v := .int .i64 p.nxt) rfl
  have f2 := free_n hx1 2
  obtain ⟨y, hY⟩ := hide (max p.nxt (wrap64 (x + 1)))
  obtain ⟨W2, hW2⟩ := hide (W1.setCell ⟨B, 2, none⟩ (.int .i64 y))
  have hx2 : W2.heap[B]? = some (.cells (arrG ⟨p.node, x, y, p.state, p.active, p.heard⟩) 27 (0, 0)) := by rw [← hW2.out, heap_setCell]; simp [hx1, storeIn]
  have hy2 : W2.heap[B + 1]? = some (.cells #[.int .i64 0, .int .i64 0, .int .i64 0, .int .i64 0, .bool false, .int .i64 0] 27 (0, 0)) := by rw [← hW2.out]; exact hp_set_other hy1 (by show B ≠ B + 1; omega)
  have Hb2 : Hid (Below B w W2) := by show Below _ _ _; rw [← hW2.out]; exact Hb1.out.setCell (p := ⟨B, 2, none⟩) (Nat.le_refl _) _
  clear hx1 hy1
  go_upto_region 3 with fail
  rw [hY.out, hW2.out]
  clear c1 c2 f2
  have c3 := cell_n hx2 3 (v := .int .i64 p.state) rfl
  have f3 := free_n hx2 3
  obtain ⟨W3, hW3⟩ := hide (W2.setCell ⟨B, 3, none⟩ (.int .i64 2))
  have hx3 : W3.heap[B]? = some (.cells (arrG ⟨p.node, x, y, 2, p.active, p.heard⟩) 27 (0, 0)) := by rw [← hW3.out, heap_setCell]; simp [hx2, storeIn]
  have hy3 : W3.heap[B + 1]? = some (.cells #[.int .i64 0, .int .i64 0, .int .i64 0, .int .i64 0, .bool false, .int .i64 0] 27 (0, 0)) := by rw [← hW3.out]; exact hp_set_other hy2 (by show B ≠ B + 1; omega)
  have Hb3 : Hid (Below B w W3) := by show Below _ _ _; rw [← hW3.out]; exact Hb2.out.setCell (p := ⟨B, 3, none⟩) (Nat.le_refl _) _
  clear hx2 hy2
  go_upto_region 4 with fail
  rw [hW3.out]
  clear c3 f3
  have b0 := cell_n hx3 0 (v := .int .i64 p.node) rfl
  have b1 := cell_n hx3 1 (v := .int .i64 x) rfl
  have b2 := cell_n hx3 2 (v := .int .i64 y) rfl
  have b3 := cell_n hx3 3 (v := .int .i64 2) rfl
  have b4 := cell_n hx3 4 (v := .bool p.active) rfl
  have b5 := cell_n hx3 5 (v := .int .i64 p.heard) rfl
  have q0 := cell_n hy3 0 (v := .int .i64 0) rfl
  have q1 := cell_n hy3 1 (v := .int .i64 0) rfl
  have q2 := cell_n hy3 2 (v := .int .i64 0) rfl
  have q3 := cell_n hy3 3 (v := .int .i64 0) rfl
  have q4 := cell_n hy3 4 (v := .bool false) rfl
  have q5 := cell_n hy3 5 (v := .int .i64 0) rfl
  have g0 := free_n hy3 0
  have g1 := free_n hy3 1
  have g2 := free_n hy3 2
  have g3 := free_n hy3 3
  have g4 := free_n hy3 4
  have g5 := free_n hy3 5
  have HE9 := Lib.hid (setAll_at (xs := [.int .i64 0, .int .i64 0, .int .i64 0, .int .i64 0, .bool false, .int .i64 0]) hy3 [.int .i64 p.node, .int .i64 x, .int .i64 y, .int .i64 2, .bool p.active, .int .i64 p.heard] rfl)
  have HB9 := Lib.hid (setAll_below Hb3.out (Nat.le_succ B) [.int .i64 p.node, .int .i64 x, .int .i64 y, .int .i64 2, .bool p.active, .int .i64 p.heard])
  clear hx3 hy3
  go_wp2_with fail
  change bodyPost _ _ _ Exit.ret _ (setAll W3 (B + 1) [.int .i64 p.node, .int .i64 x, .int .i64 y, .int .i64 2, .bool p.active, .int .i64 p.heard])
  generalize setAll W3 (B + 1) [.int .i64 p.node, .int .i64 x, .int .i64 y, .int .i64 2, .bool p.active, .int .i64 p.heard] = W9 at HE9 HB9 ⊢
  clear q0 q1 q2 q3 q4 q5 g0 g1 g2 g3 g4 g5 b0 b1 b2 b3 b4 b5
  have e0 := cell_n HE9.out 0 (v := .int .i64 p.node) rfl
  have e1 := cell_n HE9.out 1 (v := .int .i64 x) rfl
  have e2 := cell_n HE9.out 2 (v := .int .i64 y) rfl
  have e3 := cell_n HE9.out 3 (v := .int .i64 2) rfl
  have e4 := cell_n HE9.out 4 (v := .bool p.active) rfl
  have e5 := cell_n HE9.out 5 (v := .int .i64 p.heard) rfl
  refine bodyPost_ret (by simp [results, Try.results12, go_sem, e0, e1, e2, e3, e4, e5]; rfl) rfl ?_
  rw [← HP.out]
  exact ⟨⟨p.node, x, y, 2, p.active, p.heard⟩, rfl, HB9.out⟩
set_option maxHeartbeats 2000000 in
theorem members_law (a b d : Value) (c : Conf) (w : World) (hc : Config3 w a b d c) (h1 : c.v.length ≤ 1048576) (h2 : c.n.length ≤ 1048576) (h3 : c.l.length ≤ 1048576) :
    Calls Try.prog 11 #[.agg #[a, b, d]] w fun e w' => ∃ v, e = .returned v ∧ OwnI w.heap.size w' v (unionP (c.v ++ (c.n ++ c.l))) ∧ Below w.heap.size w w' := by
  obtain ⟨post, HP⟩ := hide (fun (e : Ending) (w' : World) => ∃ v, e = .returned v ∧ OwnI w.heap.size w' v (unionP (c.v ++ (c.n ++ c.l))) ∧ Below w.heap.size w w')
  rw [HP.out]
  obtain ⟨ao, ca, rfl, _⟩ := len_of_Ints hc.v
  obtain ⟨bo, cb, rfl, _⟩ := len_of_Ints hc.n
  obtain ⟨do_, cd, rfl, _⟩ := len_of_Ints hc.l
  obtain ⟨W1, hW1⟩ := hide (w.alloc (.cells #[.slice ao c.v.length ca, .slice bo c.n.length cb, .slice do_ c.l.length cd] 25))
  obtain ⟨W2, hW2⟩ := hide (W1.alloc (.cells #[.slice ao c.v.length ca, .slice bo c.n.length cb, .slice do_ c.l.length cd] 22))
  have hx : W1.heap[w.heap.size]? = some (.cells #[.slice ao c.v.length ca, .slice bo c.n.length cb, .slice do_ c.l.length cd] 25 (0, 0)) := by rw [← hW1.out]; exact hp_at _ _ rfl
  have hb1 : Below w.heap.size w W1 := by rw [← hW1.out]; exact (Below.refl _ _).alloc (Nat.le_refl _) _
  have hy : W2.heap[W1.heap.size]? = some (.cells #[.slice ao c.v.length ca, .slice bo c.n.length cb, .slice do_ c.l.length cd] 22 (0, 0)) := by rw [← hW2.out]; exact hp_at _ _ rfl
  have hb2 : Below w.heap.size w W2 := by rw [← hW2.out]; exact hb1.alloc hb1.size _
  have hc2 := hc.mono hb2
  obtain ⟨D, hD⟩ := hide w.heap.size
  have hE : Hid (D + 1 = W1.heap.size) := by show _ = _; rw [← hD.out, ← hW1.out]; simp
  rw [← hE.out] at hy
  rw [hD.out] at hx HP hb2
  have c0 := cell_n hx 0 (v := .slice ao c.v.length ca) rfl
  have c1 := cell_n hx 1 (v := .slice bo c.n.length cb) rfl
  have c2 := cell_n hx 2 (v := .slice do_ c.l.length cd) rfl
  have HU := Lib.hid (union_law (D + 1) 3 [.slice ao c.v.length ca, .slice bo c.n.length cb, .slice do_ c.l.length cd] [c.v, c.n, c.l] W2 rfl
    (fun i hi => by
      match i, hi with
      | 0, _ => exact cell_n hy 0 rfl
      | 1, _ => exact cell_n hy 1 rfl
      | 2, _ => exact cell_n hy 2 rfl)
    (fun i h1 h2 => by
      match i, h1, h2 with
      | 0, _, _ => exact hc2.v
      | 1, _, _ => exact hc2.n
      | 2, _, _ => exact hc2.l)
    (by simp; omega) (by simp))
  rw [show ([c.v, c.n, c.l] : List (List Int)).flatten = c.v ++ (c.n ++ c.l) from by simp] at HU
  have Hb2 := Lib.hid hb2
  have hDs : Hid (D ≤ W2.heap.size) := by show _ ≤ _; rw [← hD.out]; exact hb2.size
  clear hc hc2 hx hy hb1 hb2
  go_enter Try.func11, Try.ntmps11
  go_upto_region 1 with fail
  rw [hW1.out, hD.out]
  go_wp2_with fail
  rw [hW2.out, ← hE.out]
  refine HU.out.mono ?_
  rintro e w3 ⟨v3, rfl, ho3, hb3⟩
  have Hp : Hid (post (.returned v3) w3) := by
    show post _ _
    rw [← HP.out]
    exact ⟨_, rfl, own_base ho3 hDs.out, Hb2.out.trans (hb3.mono hDs.out)⟩
  clear ho3 hb3
  go_wp2_with fail
  first | exact Hp.out | (go_ret; exact Hp.out)
end Go.Proofs.Ytgdmcbjlfnjhjaa
