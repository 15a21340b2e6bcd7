/-
  Messages: the fields that a message's kind has.
-/
import Derived.Test.YtkcllpbbjlbfaaaMsb
import Derived.BigRegion
import Derived.Deep.MidRow
import Derived.Laws.Rows
namespace Go.Proofs.Ytkcllpbbjlbfaaa
open Go.RowKit Wm Mm Lg
set_option linter.unusedVariables false
set_option linter.unusedSimpArgs false

abbrev zeroMsg : List Value := [.int .i64 0, .int .i64 0, .int .i64 0, .int .i64 0, .int .i64 0, .int .i64 0, .int .i64 0, .slice none 0 0, .int .i64 0, .int .i64 0, .slice none 0 0, .slice none 0 0, .slice none 0 0, .string ⟨#[]⟩, .bool false, .int .i64 0, .int .i64 0]
theorem size_msg : (Try.prog.info? 29).map (·.size) = some 17 := by kernel_rfl
theorem setCells_eq (b : Nat) : ∀ (vs : List Value) (w : World) (o : Nat), w.setCells b o vs = setFrom w b o vs
  | [], _, _ => rfl
  | v :: r, w, o => setCells_eq b r (w.setCell ⟨b, o, none⟩ v) (o + 1)
theorem there_of {w : World} {b : Nat} {xs : Array Value} {t : TypeId} (h : w.heap[b]? = some (.cells xs t (0, 0))) : w.there b 0 xs.size := fun j hj => by
  rw [Nat.zero_add]
  exact ⟨by rw [cell_n h j (v := xs[j]) (by simp [hj])]; rfl, free_n h j⟩
def IsSl (v : Value) : Prop := ∃ a n c, v = .slice a n c

set_option maxHeartbeats 4000000 in
set_option maxRecDepth 100000 in
theorem used_ask (m : Msg) (ev x y z : Value) (w : World) (hx : IsSl ev ∧ IsSl x ∧ IsSl y ∧ IsSl z) (hkd : (m.kind = 1 ∨ m.kind = 3)) :
    Calls Try.prog 38 #[vMsg m ev x y z] w fun e w' => e = .returned (.agg #[.int .i64 m.kind, .int .i64 m.frm, .int .i64 m.dst, .int .i64 m.term, .int .i64 m.index, .int .i64 m.logTerm, .int .i64 0, .slice none 0 0, .int .i64 0, .int .i64 0, .slice none 0 0, .slice none 0 0, .slice none 0 0, .string ⟨#[]⟩, .bool false, .int .i64 0, .int .i64 0]) ∧ Below w.heap.size w w' := by
  obtain ⟨post, HP⟩ := hide (fun (e : Ending) (w' : World) => e = .returned (.agg #[.int .i64 m.kind, .int .i64 m.frm, .int .i64 m.dst, .int .i64 m.term, .int .i64 m.index, .int .i64 m.logTerm, .int .i64 0, .slice none 0 0, .int .i64 0, .int .i64 0, .slice none 0 0, .slice none 0 0, .slice none 0 0, .string ⟨#[]⟩, .bool false, .int .i64 0, .int .i64 0]) ∧ Below w.heap.size w w')
  rw [HP.out]
  obtain ⟨⟨ae, ne, ce, rfl⟩, ⟨ax, nx, cx, rfl⟩, ⟨ay, ny, cy, rfl⟩, ⟨az, nz, cz, rfl⟩⟩ := hx
  obtain ⟨W, hW⟩ := hide ((w.alloc (.cells (rowMsg m (.slice ae ne ce) (.slice ax nx cx) (.slice ay ny cy) (.slice az nz cz)).toArray 29)).alloc (.cells zeroMsg.toArray 29))
  obtain ⟨B, hB⟩ := hide w.heap.size
  have HbW : Hid (Below B w W) := by show Below _ _ _; rw [← hW.out, ← hB.out]; exact ((Below.refl _ _).alloc (Nat.le_refl _) _).alloc (by simp) _
  have HBW : Hid (W.heap[B]? = some (.cells (rowMsg m (.slice ae ne ce) (.slice ax nx cx) (.slice ay ny cy) (.slice az nz cz)).toArray 29 (0, 0))) := by show _ = _; rw [← hW.out, ← hB.out]; exact (hp_past _ _ (by simp)).trans (hp_at _ _ rfl)
  have HRW : Hid (W.heap[B + 1]? = some (.cells zeroMsg.toArray 29 (0, 0))) := by show _ = _; rw [← hW.out, ← hB.out]; exact hp_at _ _ (by simp)
  have HWs : Hid (W.heap.size = B + 2) := by show _ = _; rw [← hW.out, ← hB.out]; simp
  obtain ⟨W2, hW2⟩ := hide (W.alloc (.cells #[.int .i64 m.kind, .int .i64 m.frm, .int .i64 m.dst, .int .i64 m.term, .int .i64 0, .int .i64 0, .int .i64 0, .slice none 0 0, .int .i64 0, .int .i64 0, .slice none 0 0, .slice none 0 0, .slice none 0 0, .string ⟨#[]⟩, .bool false, .int .i64 0, .int .i64 0] 29))
  obtain ⟨C, hC⟩ := hide W.heap.size
  have HbW2 : Hid (Below B w W2) := by show Below _ _ _; rw [← hW2.out]; exact HbW.out.alloc (by rw [HWs.out]; omega) _
  have HB2 : Hid (W2.heap[B]? = some (.cells (rowMsg m (.slice ae ne ce) (.slice ax nx cx) (.slice ay ny cy) (.slice az nz cz)).toArray 29 (0, 0))) := by show _ = _; rw [← hW2.out, hp_past _ _ (by rw [HWs.out]; omega)]; exact HBW.out
  have HR2 : Hid (W2.heap[B + 1]? = some (.cells zeroMsg.toArray 29 (0, 0))) := by show _ = _; rw [← hW2.out, hp_past _ _ (by rw [HWs.out]; omega)]; exact HRW.out
  have HC2 : Hid (W2.heap[C]? = some (.cells #[.int .i64 m.kind, .int .i64 m.frm, .int .i64 m.dst, .int .i64 m.term, .int .i64 0, .int .i64 0, .int .i64 0, .slice none 0 0, .int .i64 0, .int .i64 0, .slice none 0 0, .slice none 0 0, .slice none 0 0, .string ⟨#[]⟩, .bool false, .int .i64 0, .int .i64 0] 29 (0, 0))) := by show _ = _; rw [← hW2.out, ← hC.out]; exact hp_at _ _ rfl
  have HCe : Hid (C = B + 2) := by show _ = _; rw [← hC.out]; exact HWs.out
  obtain ⟨k, hk⟩ := hide m.kind
  obtain ⟨W3, hW3⟩ := hide ((W2.setCell ⟨C, 4, none⟩ (.int .i64 m.index)).setCell ⟨C, 5, none⟩ (.int .i64 m.logTerm))
  have HbW3 : Hid (Below B w W3) := by show Below _ _ _; rw [← hW3.out]; exact ((HbW2.out.setCell (by show B ≤ C; rw [HCe.out]; omega) _).setCell (by show B ≤ C; rw [HCe.out]; omega) _)
  have HC3 : Hid (W3.heap[C]? = some (.cells #[.int .i64 m.kind, .int .i64 m.frm, .int .i64 m.dst, .int .i64 m.term, .int .i64 m.index, .int .i64 m.logTerm, .int .i64 0, .slice none 0 0, .int .i64 0, .int .i64 0, .slice none 0 0, .slice none 0 0, .slice none 0 0, .string ⟨#[]⟩, .bool false, .int .i64 0, .int .i64 0] 29 (0, 0))) := by
    show _ = _
    rw [← hW3.out, heap_setCell, if_pos rfl, heap_setCell, if_pos rfl, HC2.out]
    rfl
  have HR3 : Hid (W3.heap[B + 1]? = some (.cells zeroMsg.toArray 29 (0, 0))) := by
    show _ = _
    rw [← hW3.out]
    exact (hp_set_other (hp_set_other HR2.out (by show C ≠ B + 1; rw [HCe.out]; omega)) (by show C ≠ B + 1; rw [HCe.out]; omega))
  have HE : Hid (post (.returned (.agg #[.int .i64 m.kind, .int .i64 m.frm, .int .i64 m.dst, .int .i64 m.term, .int .i64 m.index, .int .i64 m.logTerm, .int .i64 0, .slice none 0 0, .int .i64 0, .int .i64 0, .slice none 0 0, .slice none 0 0, .slice none 0 0, .string ⟨#[]⟩, .bool false, .int .i64 0, .int .i64 0])) (setAll W3 (B + 1) [.int .i64 m.kind, .int .i64 m.frm, .int .i64 m.dst, .int .i64 m.term, .int .i64 m.index, .int .i64 m.logTerm, .int .i64 0, .slice none 0 0, .int .i64 0, .int .i64 0, .slice none 0 0, .slice none 0 0, .slice none 0 0, .string ⟨#[]⟩, .bool false, .int .i64 0, .int .i64 0])) := by
    show post _ _
    rw [← HP.out]
    refine ⟨rfl, setAll_below ?_ ?_ _⟩
    · rw [hB.out]; exact HbW3.out
    · rw [hB.out]; omega
  have HE2 : Hid (post (.returned (.agg #[.int .i64 m.kind, .int .i64 m.frm, .int .i64 m.dst, .int .i64 m.term, .int .i64 m.index, .int .i64 m.logTerm, .int .i64 0, .slice none 0 0, .int .i64 0, .int .i64 0, .slice none 0 0, .slice none 0 0, .slice none 0 0, .string ⟨#[]⟩, .bool false, .int .i64 0, .int .i64 0])) (setAll W3.drew (B + 1) [.int .i64 m.kind, .int .i64 m.frm, .int .i64 m.dst, .int .i64 m.term, .int .i64 m.index, .int .i64 m.logTerm, .int .i64 0, .slice none 0 0, .int .i64 0, .int .i64 0, .slice none 0 0, .slice none 0 0, .slice none 0 0, .string ⟨#[]⟩, .bool false, .int .i64 0, .int .i64 0])) := by
    show post _ _
    rw [← HP.out]
    refine ⟨rfl, setAll_below ?_ ?_ _⟩
    · rw [hB.out]; exact HbW3.out.drew
    · rw [hB.out]; omega
  have HER : Hid ((setAll W3 (B + 1) [.int .i64 m.kind, .int .i64 m.frm, .int .i64 m.dst, .int .i64 m.term, .int .i64 m.index, .int .i64 m.logTerm, .int .i64 0, .slice none 0 0, .int .i64 0, .int .i64 0, .slice none 0 0, .slice none 0 0, .slice none 0 0, .string ⟨#[]⟩, .bool false, .int .i64 0, .int .i64 0]).heap[B + 1]? = some (.cells #[.int .i64 m.kind, .int .i64 m.frm, .int .i64 m.dst, .int .i64 m.term, .int .i64 m.index, .int .i64 m.logTerm, .int .i64 0, .slice none 0 0, .int .i64 0, .int .i64 0, .slice none 0 0, .slice none 0 0, .slice none 0 0, .string ⟨#[]⟩, .bool false, .int .i64 0, .int .i64 0] 29 (0, 0))) := setAll_at (xs := zeroMsg) HR3.out _ rfl
  have HR3d : Hid (W3.drew.heap[B + 1]? = some (.cells zeroMsg.toArray 29 (0, 0))) := HR3.out
  obtain ⟨W3d, hW3d⟩ := hide W3.drew
  rw [hW3d.out] at HR3d HE2
  have HER2 : Hid ((setAll W3d (B + 1) [.int .i64 m.kind, .int .i64 m.frm, .int .i64 m.dst, .int .i64 m.term, .int .i64 m.index, .int .i64 m.logTerm, .int .i64 0, .slice none 0 0, .int .i64 0, .int .i64 0, .slice none 0 0, .slice none 0 0, .slice none 0 0, .string ⟨#[]⟩, .bool false, .int .i64 0, .int .i64 0]).heap[B + 1]? = some (.cells #[.int .i64 m.kind, .int .i64 m.frm, .int .i64 m.dst, .int .i64 m.term, .int .i64 m.index, .int .i64 m.logTerm, .int .i64 0, .slice none 0 0, .int .i64 0, .int .i64 0, .slice none 0 0, .slice none 0 0, .slice none 0 0, .string ⟨#[]⟩, .bool false, .int .i64 0, .int .i64 0] 29 (0, 0))) := setAll_at (xs := zeroMsg) HR3d.out _ rfl
  have b0 := cell_n HBW.out 0 (v := .int .i64 m.kind) rfl
  have b1 := cell_n HBW.out 1 (v := .int .i64 m.frm) rfl
  have b2 := cell_n HBW.out 2 (v := .int .i64 m.dst) rfl
  have b3 := cell_n HBW.out 3 (v := .int .i64 m.term) rfl
  go_enter Try.func38, Try.ntmps38
  go_upto_region 1 with fail
  rw [hW.out]
  try rw [hB.out]
  go_upto_region 2 with fail
  rw [hW2.out]
  try rw [hC.out]
  clear b0 b1 b2 b3
  have b0 := cell_n HB2.out 0 (v := .int .i64 m.kind) rfl
  have b4 := cell_n HB2.out 4 (v := .int .i64 m.index) rfl
  have b5 := cell_n HB2.out 5 (v := .int .i64 m.logTerm) rfl
  have c4 := cell_n HC2.out 4 (v := .int .i64 0) rfl
  have f4 := free_n HC2.out 4
  have c5 := cell_n HC2.out 5 (v := .int .i64 0) rfl
  have f5 := free_n HC2.out 5
  rcases hkd with hkd | hkd
  · have t1 : (m.kind == 1) = true := beq_iff_eq.2 (by omega)
    clear hkd
    go_upto_region 5 with fail
    go_region
    go_upto_region 15 with fail
    rw [hW3.out]
    rw [hW3d.out]
    have HC3d : Hid (W3d.heap[C]? = some (.cells #[.int .i64 m.kind, .int .i64 m.frm, .int .i64 m.dst, .int .i64 m.term, .int .i64 m.index, .int .i64 m.logTerm, .int .i64 0, .slice none 0 0, .int .i64 0, .int .i64 0, .slice none 0 0, .slice none 0 0, .slice none 0 0, .string ⟨#[]⟩, .bool false, .int .i64 0, .int .i64 0] 29 (0, 0))) := by show _ = _; rw [← hW3d.out]; exact HC3.out
    have hth : W3d.there (B + 1) 0 17 := there_of HR3d.out
    have Hth := Lib.hid hth
    clear hth
    refine wp_region_lit ?_
    refine wpList_load_row rfl 29 (.tmp 3) rfl C rfl 29 #[.int .i64 m.kind, .int .i64 m.frm, .int .i64 m.dst, .int .i64 m.term, .int .i64 m.index, .int .i64 m.logTerm, .int .i64 0, .slice none 0 0, .int .i64 0, .int .i64 0, .slice none 0 0, .slice none 0 0, .slice none 0 0, .string ⟨#[]⟩, .bool false, .int .i64 0, .int .i64 0] (0, 0) _ HC3d.out Try.underlying29 rfl size_msg ?_
    refine wpList_store_mid rfl 29 (.tmp 2) (.tmp 69) rfl (B + 1) 0 #[.int .i64 m.kind, .int .i64 m.frm, .int .i64 m.dst, .int .i64 m.term, .int .i64 m.index, .int .i64 m.logTerm, .int .i64 0, .slice none 0 0, .int .i64 0, .int .i64 0, .slice none 0 0, .slice none 0 0, .slice none 0 0, .string ⟨#[]⟩, .bool false, .int .i64 0, .int .i64 0] rfl rfl Hth.out size_msg (by simp [Value.oneCell']) ?_
    rw [setCells_eq]
    show wpList _ _ _ [] _ (setAll W3d (B + 1) [.int .i64 m.kind, .int .i64 m.frm, .int .i64 m.dst, .int .i64 m.term, .int .i64 m.index, .int .i64 m.logTerm, .int .i64 0, .slice none 0 0, .int .i64 0, .int .i64 0, .slice none 0 0, .slice none 0 0, .slice none 0 0, .string ⟨#[]⟩, .bool false, .int .i64 0, .int .i64 0])
    generalize setAll W3d (B + 1) [.int .i64 m.kind, .int .i64 m.frm, .int .i64 m.dst, .int .i64 m.term, .int .i64 m.index, .int .i64 m.logTerm, .int .i64 0, .slice none 0 0, .int .i64 0, .int .i64 0, .slice none 0 0, .slice none 0 0, .slice none 0 0, .string ⟨#[]⟩, .bool false, .int .i64 0, .int .i64 0] = W9 at HER2 HE2 ⊢
    go_wp2_with fail
    refine bodyPost_ret (results_cell_row rfl _ W9 (B + 1) 29 #[.int .i64 m.kind, .int .i64 m.frm, .int .i64 m.dst, .int .i64 m.term, .int .i64 m.index, .int .i64 m.logTerm, .int .i64 0, .slice none 0 0, .int .i64 0, .int .i64 0, .slice none 0 0, .slice none 0 0, .slice none 0 0, .string ⟨#[]⟩, .bool false, .int .i64 0, .int .i64 0] (0, 0) _ rfl HER2.out Try.underlying29 rfl size_msg) rfl ?_
    exact HE2.out
  · have t1 : (m.kind == 1) = false := beq_eq_false_iff_ne.2 (by omega)
    have t3 : (m.kind == 3) = true := beq_iff_eq.2 (by omega)
    clear hkd
    go_upto_region 5 with fail
    go_region
    go_upto_region 15 with fail
    rw [hW3.out]
    rw [hW3d.out]
    have HC3d : Hid (W3d.heap[C]? = some (.cells #[.int .i64 m.kind, .int .i64 m.frm, .int .i64 m.dst, .int .i64 m.term, .int .i64 m.index, .int .i64 m.logTerm, .int .i64 0, .slice none 0 0, .int .i64 0, .int .i64 0, .slice none 0 0, .slice none 0 0, .slice none 0 0, .string ⟨#[]⟩, .bool false, .int .i64 0, .int .i64 0] 29 (0, 0))) := by show _ = _; rw [← hW3d.out]; exact HC3.out
    have hth : W3d.there (B + 1) 0 17 := there_of HR3d.out
    have Hth := Lib.hid hth
    clear hth
    refine wp_region_lit ?_
    refine wpList_load_row rfl 29 (.tmp 3) rfl C rfl 29 #[.int .i64 m.kind, .int .i64 m.frm, .int .i64 m.dst, .int .i64 m.term, .int .i64 m.index, .int .i64 m.logTerm, .int .i64 0, .slice none 0 0, .int .i64 0, .int .i64 0, .slice none 0 0, .slice none 0 0, .slice none 0 0, .string ⟨#[]⟩, .bool false, .int .i64 0, .int .i64 0] (0, 0) _ HC3d.out Try.underlying29 rfl size_msg ?_
    refine wpList_store_mid rfl 29 (.tmp 2) (.tmp 69) rfl (B + 1) 0 #[.int .i64 m.kind, .int .i64 m.frm, .int .i64 m.dst, .int .i64 m.term, .int .i64 m.index, .int .i64 m.logTerm, .int .i64 0, .slice none 0 0, .int .i64 0, .int .i64 0, .slice none 0 0, .slice none 0 0, .slice none 0 0, .string ⟨#[]⟩, .bool false, .int .i64 0, .int .i64 0] rfl rfl Hth.out size_msg (by simp [Value.oneCell']) ?_
    rw [setCells_eq]
    show wpList _ _ _ [] _ (setAll W3d (B + 1) [.int .i64 m.kind, .int .i64 m.frm, .int .i64 m.dst, .int .i64 m.term, .int .i64 m.index, .int .i64 m.logTerm, .int .i64 0, .slice none 0 0, .int .i64 0, .int .i64 0, .slice none 0 0, .slice none 0 0, .slice none 0 0, .string ⟨#[]⟩, .bool false, .int .i64 0, .int .i64 0])
    generalize setAll W3d (B + 1) [.int .i64 m.kind, .int .i64 m.frm, .int .i64 m.dst, .int .i64 m.term, .int .i64 m.index, .int .i64 m.logTerm, .int .i64 0, .slice none 0 0, .int .i64 0, .int .i64 0, .slice none 0 0, .slice none 0 0, .slice none 0 0, .string ⟨#[]⟩, .bool false, .int .i64 0, .int .i64 0] = W9 at HER2 HE2 ⊢
    go_wp2_with fail
    refine bodyPost_ret (results_cell_row rfl _ W9 (B + 1) 29 #[.int .i64 m.kind, .int .i64 m.frm, .int .i64 m.dst, .int .i64 m.term, .int .i64 m.index, .int .i64 m.logTerm, .int .i64 0, .slice none 0 0, .int .i64 0, .int .i64 0, .slice none 0 0, .slice none 0 0, .slice none 0 0, .string ⟨#[]⟩, .bool false, .int .i64 0, .int .i64 0] (0, 0) _ rfl HER2.out Try.underlying29 rfl size_msg) rfl ?_
    exact HE2.out

set_option maxHeartbeats 4000000 in
set_option maxRecDepth 100000 in
theorem used_rep (m : Msg) (ev x y z : Value) (w : World) (hx : IsSl ev ∧ IsSl x ∧ IsSl y ∧ IsSl z) (hkd : (m.kind = 2 ∨ m.kind = 4)) :
    Calls Try.prog 38 #[vMsg m ev x y z] w fun e w' => e = .returned (.agg #[.int .i64 m.kind, .int .i64 m.frm, .int .i64 m.dst, .int .i64 m.term, .int .i64 0, .int .i64 0, .int .i64 0, .slice none 0 0, .int .i64 0, .int .i64 0, .slice none 0 0, .slice none 0 0, .slice none 0 0, .string ⟨#[]⟩, .bool m.rej, .int .i64 0, .int .i64 0]) ∧ Below w.heap.size w w' := by
  obtain ⟨post, HP⟩ := hide (fun (e : Ending) (w' : World) => e = .returned (.agg #[.int .i64 m.kind, .int .i64 m.frm, .int .i64 m.dst, .int .i64 m.term, .int .i64 0, .int .i64 0, .int .i64 0, .slice none 0 0, .int .i64 0, .int .i64 0, .slice none 0 0, .slice none 0 0, .slice none 0 0, .string ⟨#[]⟩, .bool m.rej, .int .i64 0, .int .i64 0]) ∧ Below w.heap.size w w')
  rw [HP.out]
  obtain ⟨⟨ae, ne, ce, rfl⟩, ⟨ax, nx, cx, rfl⟩, ⟨ay, ny, cy, rfl⟩, ⟨az, nz, cz, rfl⟩⟩ := hx
  obtain ⟨W, hW⟩ := hide ((w.alloc (.cells (rowMsg m (.slice ae ne ce) (.slice ax nx cx) (.slice ay ny cy) (.slice az nz cz)).toArray 29)).alloc (.cells zeroMsg.toArray 29))
  obtain ⟨B, hB⟩ := hide w.heap.size
  have HbW : Hid (Below B w W) := by show Below _ _ _; rw [← hW.out, ← hB.out]; exact ((Below.refl _ _).alloc (Nat.le_refl _) _).alloc (by simp) _
  have HBW : Hid (W.heap[B]? = some (.cells (rowMsg m (.slice ae ne ce) (.slice ax nx cx) (.slice ay ny cy) (.slice az nz cz)).toArray 29 (0, 0))) := by show _ = _; rw [← hW.out, ← hB.out]; exact (hp_past _ _ (by simp)).trans (hp_at _ _ rfl)
  have HRW : Hid (W.heap[B + 1]? = some (.cells zeroMsg.toArray 29 (0, 0))) := by show _ = _; rw [← hW.out, ← hB.out]; exact hp_at _ _ (by simp)
  have HWs : Hid (W.heap.size = B + 2) := by show _ = _; rw [← hW.out, ← hB.out]; simp
  obtain ⟨W2, hW2⟩ := hide (W.alloc (.cells #[.int .i64 m.kind, .int .i64 m.frm, .int .i64 m.dst, .int .i64 m.term, .int .i64 0, .int .i64 0, .int .i64 0, .slice none 0 0, .int .i64 0, .int .i64 0, .slice none 0 0, .slice none 0 0, .slice none 0 0, .string ⟨#[]⟩, .bool false, .int .i64 0, .int .i64 0] 29))
  obtain ⟨C, hC⟩ := hide W.heap.size
  have HbW2 : Hid (Below B w W2) := by show Below _ _ _; rw [← hW2.out]; exact HbW.out.alloc (by rw [HWs.out]; omega) _
  have HB2 : Hid (W2.heap[B]? = some (.cells (rowMsg m (.slice ae ne ce) (.slice ax nx cx) (.slice ay ny cy) (.slice az nz cz)).toArray 29 (0, 0))) := by show _ = _; rw [← hW2.out, hp_past _ _ (by rw [HWs.out]; omega)]; exact HBW.out
  have HR2 : Hid (W2.heap[B + 1]? = some (.cells zeroMsg.toArray 29 (0, 0))) := by show _ = _; rw [← hW2.out, hp_past _ _ (by rw [HWs.out]; omega)]; exact HRW.out
  have HC2 : Hid (W2.heap[C]? = some (.cells #[.int .i64 m.kind, .int .i64 m.frm, .int .i64 m.dst, .int .i64 m.term, .int .i64 0, .int .i64 0, .int .i64 0, .slice none 0 0, .int .i64 0, .int .i64 0, .slice none 0 0, .slice none 0 0, .slice none 0 0, .string ⟨#[]⟩, .bool false, .int .i64 0, .int .i64 0] 29 (0, 0))) := by show _ = _; rw [← hW2.out, ← hC.out]; exact hp_at _ _ rfl
  have HCe : Hid (C = B + 2) := by show _ = _; rw [← hC.out]; exact HWs.out
  obtain ⟨k, hk⟩ := hide m.kind
  obtain ⟨W3, hW3⟩ := hide (W2.setCell ⟨C, 14, none⟩ (.bool m.rej))
  have HbW3 : Hid (Below B w W3) := by show Below _ _ _; rw [← hW3.out]; exact (HbW2.out.setCell (by show B ≤ C; rw [HCe.out]; omega) _)
  have HC3 : Hid (W3.heap[C]? = some (.cells #[.int .i64 m.kind, .int .i64 m.frm, .int .i64 m.dst, .int .i64 m.term, .int .i64 0, .int .i64 0, .int .i64 0, .slice none 0 0, .int .i64 0, .int .i64 0, .slice none 0 0, .slice none 0 0, .slice none 0 0, .string ⟨#[]⟩, .bool m.rej, .int .i64 0, .int .i64 0] 29 (0, 0))) := by
    show _ = _
    rw [← hW3.out, heap_setCell, if_pos rfl, HC2.out]
    rfl
  have HR3 : Hid (W3.heap[B + 1]? = some (.cells zeroMsg.toArray 29 (0, 0))) := by
    show _ = _
    rw [← hW3.out]
    exact (hp_set_other HR2.out (by show C ≠ B + 1; rw [HCe.out]; omega))
  have HE : Hid (post (.returned (.agg #[.int .i64 m.kind, .int .i64 m.frm, .int .i64 m.dst, .int .i64 m.term, .int .i64 0, .int .i64 0, .int .i64 0, .slice none 0 0, .int .i64 0, .int .i64 0, .slice none 0 0, .slice none 0 0, .slice none 0 0, .string ⟨#[]⟩, .bool m.rej, .int .i64 0, .int .i64 0])) (setAll W3 (B + 1) [.int .i64 m.kind, .int .i64 m.frm, .int .i64 m.dst, .int .i64 m.term, .int .i64 0, .int .i64 0, .int .i64 0, .slice none 0 0, .int .i64 0, .int .i64 0, .slice none 0 0, .slice none 0 0, .slice none 0 0, .string ⟨#[]⟩, .bool m.rej, .int .i64 0, .int .i64 0])) := by
    show post _ _
    rw [← HP.out]
    refine ⟨rfl, setAll_below ?_ ?_ _⟩
    · rw [hB.out]; exact HbW3.out
    · rw [hB.out]; omega
  have HE2 : Hid (post (.returned (.agg #[.int .i64 m.kind, .int .i64 m.frm, .int .i64 m.dst, .int .i64 m.term, .int .i64 0, .int .i64 0, .int .i64 0, .slice none 0 0, .int .i64 0, .int .i64 0, .slice none 0 0, .slice none 0 0, .slice none 0 0, .string ⟨#[]⟩, .bool m.rej, .int .i64 0, .int .i64 0])) (setAll W3.drew (B + 1) [.int .i64 m.kind, .int .i64 m.frm, .int .i64 m.dst, .int .i64 m.term, .int .i64 0, .int .i64 0, .int .i64 0, .slice none 0 0, .int .i64 0, .int .i64 0, .slice none 0 0, .slice none 0 0, .slice none 0 0, .string ⟨#[]⟩, .bool m.rej, .int .i64 0, .int .i64 0])) := by
    show post _ _
    rw [← HP.out]
    refine ⟨rfl, setAll_below ?_ ?_ _⟩
    · rw [hB.out]; exact HbW3.out.drew
    · rw [hB.out]; omega
  have HER : Hid ((setAll W3 (B + 1) [.int .i64 m.kind, .int .i64 m.frm, .int .i64 m.dst, .int .i64 m.term, .int .i64 0, .int .i64 0, .int .i64 0, .slice none 0 0, .int .i64 0, .int .i64 0, .slice none 0 0, .slice none 0 0, .slice none 0 0, .string ⟨#[]⟩, .bool m.rej, .int .i64 0, .int .i64 0]).heap[B + 1]? = some (.cells #[.int .i64 m.kind, .int .i64 m.frm, .int .i64 m.dst, .int .i64 m.term, .int .i64 0, .int .i64 0, .int .i64 0, .slice none 0 0, .int .i64 0, .int .i64 0, .slice none 0 0, .slice none 0 0, .slice none 0 0, .string ⟨#[]⟩, .bool m.rej, .int .i64 0, .int .i64 0] 29 (0, 0))) := setAll_at (xs := zeroMsg) HR3.out _ rfl
  have HR3d : Hid (W3.drew.heap[B + 1]? = some (.cells zeroMsg.toArray 29 (0, 0))) := HR3.out
  obtain ⟨W3d, hW3d⟩ := hide W3.drew
  rw [hW3d.out] at HR3d HE2
  have HER2 : Hid ((setAll W3d (B + 1) [.int .i64 m.kind, .int .i64 m.frm, .int .i64 m.dst, .int .i64 m.term, .int .i64 0, .int .i64 0, .int .i64 0, .slice none 0 0, .int .i64 0, .int .i64 0, .slice none 0 0, .slice none 0 0, .slice none 0 0, .string ⟨#[]⟩, .bool m.rej, .int .i64 0, .int .i64 0]).heap[B + 1]? = some (.cells #[.int .i64 m.kind, .int .i64 m.frm, .int .i64 m.dst, .int .i64 m.term, .int .i64 0, .int .i64 0, .int .i64 0, .slice none 0 0, .int .i64 0, .int .i64 0, .slice none 0 0, .slice none 0 0, .slice none 0 0, .string ⟨#[]⟩, .bool m.rej, .int .i64 0, .int .i64 0] 29 (0, 0))) := setAll_at (xs := zeroMsg) HR3d.out _ rfl
  have b0 := cell_n HBW.out 0 (v := .int .i64 m.kind) rfl
  have b1 := cell_n HBW.out 1 (v := .int .i64 m.frm) rfl
  have b2 := cell_n HBW.out 2 (v := .int .i64 m.dst) rfl
  have b3 := cell_n HBW.out 3 (v := .int .i64 m.term) rfl
  go_enter Try.func38, Try.ntmps38
  go_upto_region 1 with fail
  rw [hW.out]
  try rw [hB.out]
  go_upto_region 2 with fail
  rw [hW2.out]
  try rw [hC.out]
  clear b0 b1 b2 b3
  have b0 := cell_n HB2.out 0 (v := .int .i64 m.kind) rfl
  have b14 := cell_n HB2.out 14 (v := .bool m.rej) rfl
  have c14 := cell_n HC2.out 14 (v := .bool false) rfl
  have f14 := free_n HC2.out 14
  rcases hkd with hkd | hkd
  · have t1 : (m.kind == 1) = false := beq_eq_false_iff_ne.2 (by omega)
    have t3 : (m.kind == 3) = false := beq_eq_false_iff_ne.2 (by omega)
    have t2 : (m.kind == 2) = true := beq_iff_eq.2 (by omega)
    clear hkd
    go_upto_region 8 with fail
    go_upto_region 15 with fail
    rw [hW3.out]
    have hth : W3.there (B + 1) 0 17 := there_of HR3.out
    have Hth := Lib.hid hth
    clear hth
    refine wp_region_lit ?_
    refine wpList_load_row rfl 29 (.tmp 3) rfl C rfl 29 #[.int .i64 m.kind, .int .i64 m.frm, .int .i64 m.dst, .int .i64 m.term, .int .i64 0, .int .i64 0, .int .i64 0, .slice none 0 0, .int .i64 0, .int .i64 0, .slice none 0 0, .slice none 0 0, .slice none 0 0, .string ⟨#[]⟩, .bool m.rej, .int .i64 0, .int .i64 0] (0, 0) _ HC3.out Try.underlying29 rfl size_msg ?_
    refine wpList_store_mid rfl 29 (.tmp 2) (.tmp 69) rfl (B + 1) 0 #[.int .i64 m.kind, .int .i64 m.frm, .int .i64 m.dst, .int .i64 m.term, .int .i64 0, .int .i64 0, .int .i64 0, .slice none 0 0, .int .i64 0, .int .i64 0, .slice none 0 0, .slice none 0 0, .slice none 0 0, .string ⟨#[]⟩, .bool m.rej, .int .i64 0, .int .i64 0] rfl rfl Hth.out size_msg (by simp [Value.oneCell']) ?_
    rw [setCells_eq]
    show wpList _ _ _ [] _ (setAll W3 (B + 1) [.int .i64 m.kind, .int .i64 m.frm, .int .i64 m.dst, .int .i64 m.term, .int .i64 0, .int .i64 0, .int .i64 0, .slice none 0 0, .int .i64 0, .int .i64 0, .slice none 0 0, .slice none 0 0, .slice none 0 0, .string ⟨#[]⟩, .bool m.rej, .int .i64 0, .int .i64 0])
    generalize setAll W3 (B + 1) [.int .i64 m.kind, .int .i64 m.frm, .int .i64 m.dst, .int .i64 m.term, .int .i64 0, .int .i64 0, .int .i64 0, .slice none 0 0, .int .i64 0, .int .i64 0, .slice none 0 0, .slice none 0 0, .slice none 0 0, .string ⟨#[]⟩, .bool m.rej, .int .i64 0, .int .i64 0] = W9 at HER HE ⊢
    go_wp2_with fail
    refine bodyPost_ret (results_cell_row rfl _ W9 (B + 1) 29 #[.int .i64 m.kind, .int .i64 m.frm, .int .i64 m.dst, .int .i64 m.term, .int .i64 0, .int .i64 0, .int .i64 0, .slice none 0 0, .int .i64 0, .int .i64 0, .slice none 0 0, .slice none 0 0, .slice none 0 0, .string ⟨#[]⟩, .bool m.rej, .int .i64 0, .int .i64 0] (0, 0) _ rfl HER.out Try.underlying29 rfl size_msg) rfl ?_
    exact HE.out
  · have t1 : (m.kind == 1) = false := beq_eq_false_iff_ne.2 (by omega)
    have t3 : (m.kind == 3) = false := beq_eq_false_iff_ne.2 (by omega)
    have t2 : (m.kind == 2) = false := beq_eq_false_iff_ne.2 (by omega)
    have t4 : (m.kind == 4) = true := beq_iff_eq.2 (by omega)
    clear hkd
    go_upto_region 8 with fail
    go_upto_region 15 with fail
    rw [hW3.out]
    have hth : W3.there (B + 1) 0 17 := there_of HR3.out
    have Hth := Lib.hid hth
    clear hth
    refine wp_region_lit ?_
    refine wpList_load_row rfl 29 (.tmp 3) rfl C rfl 29 #[.int .i64 m.kind, .int .i64 m.frm, .int .i64 m.dst, .int .i64 m.term, .int .i64 0, .int .i64 0, .int .i64 0, .slice none 0 0, .int .i64 0, .int .i64 0, .slice none 0 0, .slice none 0 0, .slice none 0 0, .string ⟨#[]⟩, .bool m.rej, .int .i64 0, .int .i64 0] (0, 0) _ HC3.out Try.underlying29 rfl size_msg ?_
    refine wpList_store_mid rfl 29 (.tmp 2) (.tmp 69) rfl (B + 1) 0 #[.int .i64 m.kind, .int .i64 m.frm, .int .i64 m.dst, .int .i64 m.term, .int .i64 0, .int .i64 0, .int .i64 0, .slice none 0 0, .int .i64 0, .int .i64 0, .slice none 0 0, .slice none 0 0, .slice none 0 0, .string ⟨#[]⟩, .bool m.rej, .int .i64 0, .int .i64 0] rfl rfl Hth.out size_msg (by simp [Value.oneCell']) ?_
    rw [setCells_eq]
    show wpList _ _ _ [] _ (setAll W3 (B + 1) [.int .i64 m.kind, .int .i64 m.frm, .int .i64 m.dst, .int .i64 m.term, .int .i64 0, .int .i64 0, .int .i64 0, .slice none 0 0, .int .i64 0, .int .i64 0, .slice none 0 0, .slice none 0 0, .slice none 0 0, .string ⟨#[]⟩, .bool m.rej, .int .i64 0, .int .i64 0])
    generalize setAll W3 (B + 1) [.int .i64 m.kind, .int .i64 m.frm, .int .i64 m.dst, .int .i64 m.term, .int .i64 0, .int .i64 0, .int .i64 0, .slice none 0 0, .int .i64 0, .int .i64 0, .slice none 0 0, .slice none 0 0, .slice none 0 0, .string ⟨#[]⟩, .bool m.rej, .int .i64 0, .int .i64 0] = W9 at HER HE ⊢
    go_wp2_with fail
    refine bodyPost_ret (results_cell_row rfl _ W9 (B + 1) 29 #[.int .i64 m.kind, .int .i64 m.frm, .int .i64 m.dst, .int .i64 m.term, .int .i64 0, .int .i64 0, .int .i64 0, .slice none 0 0, .int .i64 0, .int .i64 0, .slice none 0 0, .slice none 0 0, .slice none 0 0, .string ⟨#[]⟩, .bool m.rej, .int .i64 0, .int .i64 0] (0, 0) _ rfl HER.out Try.underlying29 rfl size_msg) rfl ?_
    exact HE.out

set_option maxHeartbeats 4000000 in
set_option maxRecDepth 100000 in
theorem used_app (m : Msg) (ev x y z : Value) (w : World) (hx : IsSl ev ∧ IsSl x ∧ IsSl y ∧ IsSl z) (hkd : m.kind = 5) :
    Calls Try.prog 38 #[vMsg m ev x y z] w fun e w' => e = .returned (.agg #[.int .i64 m.kind, .int .i64 m.frm, .int .i64 m.dst, .int .i64 m.term, .int .i64 m.index, .int .i64 m.logTerm, .int .i64 m.commit, ev, .int .i64 0, .int .i64 0, .slice none 0 0, .slice none 0 0, .slice none 0 0, .string ⟨#[]⟩, .bool false, .int .i64 0, .int .i64 m.ctx]) ∧ Below w.heap.size w w' := by
  obtain ⟨post, HP⟩ := hide (fun (e : Ending) (w' : World) => e = .returned (.agg #[.int .i64 m.kind, .int .i64 m.frm, .int .i64 m.dst, .int .i64 m.term, .int .i64 m.index, .int .i64 m.logTerm, .int .i64 m.commit, ev, .int .i64 0, .int .i64 0, .slice none 0 0, .slice none 0 0, .slice none 0 0, .string ⟨#[]⟩, .bool false, .int .i64 0, .int .i64 m.ctx]) ∧ Below w.heap.size w w')
  rw [HP.out]
  obtain ⟨⟨ae, ne, ce, rfl⟩, ⟨ax, nx, cx, rfl⟩, ⟨ay, ny, cy, rfl⟩, ⟨az, nz, cz, rfl⟩⟩ := hx
  obtain ⟨W, hW⟩ := hide ((w.alloc (.cells (rowMsg m (.slice ae ne ce) (.slice ax nx cx) (.slice ay ny cy) (.slice az nz cz)).toArray 29)).alloc (.cells zeroMsg.toArray 29))
  obtain ⟨B, hB⟩ := hide w.heap.size
  have HbW : Hid (Below B w W) := by show Below _ _ _; rw [← hW.out, ← hB.out]; exact ((Below.refl _ _).alloc (Nat.le_refl _) _).alloc (by simp) _
  have HBW : Hid (W.heap[B]? = some (.cells (rowMsg m (.slice ae ne ce) (.slice ax nx cx) (.slice ay ny cy) (.slice az nz cz)).toArray 29 (0, 0))) := by show _ = _; rw [← hW.out, ← hB.out]; exact (hp_past _ _ (by simp)).trans (hp_at _ _ rfl)
  have HRW : Hid (W.heap[B + 1]? = some (.cells zeroMsg.toArray 29 (0, 0))) := by show _ = _; rw [← hW.out, ← hB.out]; exact hp_at _ _ (by simp)
  have HWs : Hid (W.heap.size = B + 2) := by show _ = _; rw [← hW.out, ← hB.out]; simp
  obtain ⟨W2, hW2⟩ := hide (W.alloc (.cells #[.int .i64 m.kind, .int .i64 m.frm, .int .i64 m.dst, .int .i64 m.term, .int .i64 0, .int .i64 0, .int .i64 0, .slice none 0 0, .int .i64 0, .int .i64 0, .slice none 0 0, .slice none 0 0, .slice none 0 0, .string ⟨#[]⟩, .bool false, .int .i64 0, .int .i64 0] 29))
  obtain ⟨C, hC⟩ := hide W.heap.size
  have HbW2 : Hid (Below B w W2) := by show Below _ _ _; rw [← hW2.out]; exact HbW.out.alloc (by rw [HWs.out]; omega) _
  have HB2 : Hid (W2.heap[B]? = some (.cells (rowMsg m (.slice ae ne ce) (.slice ax nx cx) (.slice ay ny cy) (.slice az nz cz)).toArray 29 (0, 0))) := by show _ = _; rw [← hW2.out, hp_past _ _ (by rw [HWs.out]; omega)]; exact HBW.out
  have HR2 : Hid (W2.heap[B + 1]? = some (.cells zeroMsg.toArray 29 (0, 0))) := by show _ = _; rw [← hW2.out, hp_past _ _ (by rw [HWs.out]; omega)]; exact HRW.out
  have HC2 : Hid (W2.heap[C]? = some (.cells #[.int .i64 m.kind, .int .i64 m.frm, .int .i64 m.dst, .int .i64 m.term, .int .i64 0, .int .i64 0, .int .i64 0, .slice none 0 0, .int .i64 0, .int .i64 0, .slice none 0 0, .slice none 0 0, .slice none 0 0, .string ⟨#[]⟩, .bool false, .int .i64 0, .int .i64 0] 29 (0, 0))) := by show _ = _; rw [← hW2.out, ← hC.out]; exact hp_at _ _ rfl
  have HCe : Hid (C = B + 2) := by show _ = _; rw [← hC.out]; exact HWs.out
  obtain ⟨k, hk⟩ := hide m.kind
  obtain ⟨W3, hW3⟩ := hide (((((W2.setCell ⟨C, 4, none⟩ (.int .i64 m.index)).setCell ⟨C, 5, none⟩ (.int .i64 m.logTerm)).setCell ⟨C, 6, none⟩ (.int .i64 m.commit)).setCell ⟨C, 7, none⟩ ((.slice ae ne ce))).setCell ⟨C, 16, none⟩ (.int .i64 m.ctx))
  have HbW3 : Hid (Below B w W3) := by show Below _ _ _; rw [← hW3.out]; exact (((((HbW2.out.setCell (by show B ≤ C; rw [HCe.out]; omega) _).setCell (by show B ≤ C; rw [HCe.out]; omega) _).setCell (by show B ≤ C; rw [HCe.out]; omega) _).setCell (by show B ≤ C; rw [HCe.out]; omega) _).setCell (by show B ≤ C; rw [HCe.out]; omega) _)
  have HC3 : Hid (W3.heap[C]? = some (.cells #[.int .i64 m.kind, .int .i64 m.frm, .int .i64 m.dst, .int .i64 m.term, .int .i64 m.index, .int .i64 m.logTerm, .int .i64 m.commit, (.slice ae ne ce), .int .i64 0, .int .i64 0, .slice none 0 0, .slice none 0 0, .slice none 0 0, .string ⟨#[]⟩, .bool false, .int .i64 0, .int .i64 m.ctx] 29 (0, 0))) := by
    show _ = _
    rw [← hW3.out, heap_setCell, if_pos rfl, heap_setCell, if_pos rfl, heap_setCell, if_pos rfl, heap_setCell, if_pos rfl, heap_setCell, if_pos rfl, HC2.out]
    rfl
  have HR3 : Hid (W3.heap[B + 1]? = some (.cells zeroMsg.toArray 29 (0, 0))) := by
    show _ = _
    rw [← hW3.out]
    exact (hp_set_other (hp_set_other (hp_set_other (hp_set_other (hp_set_other HR2.out (by show C ≠ B + 1; rw [HCe.out]; omega)) (by show C ≠ B + 1; rw [HCe.out]; omega)) (by show C ≠ B + 1; rw [HCe.out]; omega)) (by show C ≠ B + 1; rw [HCe.out]; omega)) (by show C ≠ B + 1; rw [HCe.out]; omega))
  have HE : Hid (post (.returned (.agg #[.int .i64 m.kind, .int .i64 m.frm, .int .i64 m.dst, .int .i64 m.term, .int .i64 m.index, .int .i64 m.logTerm, .int .i64 m.commit, (.slice ae ne ce), .int .i64 0, .int .i64 0, .slice none 0 0, .slice none 0 0, .slice none 0 0, .string ⟨#[]⟩, .bool false, .int .i64 0, .int .i64 m.ctx])) (setAll W3 (B + 1) [.int .i64 m.kind, .int .i64 m.frm, .int .i64 m.dst, .int .i64 m.term, .int .i64 m.index, .int .i64 m.logTerm, .int .i64 m.commit, (.slice ae ne ce), .int .i64 0, .int .i64 0, .slice none 0 0, .slice none 0 0, .slice none 0 0, .string ⟨#[]⟩, .bool false, .int .i64 0, .int .i64 m.ctx])) := by
    show post _ _
    rw [← HP.out]
    refine ⟨rfl, setAll_below ?_ ?_ _⟩
    · rw [hB.out]; exact HbW3.out
    · rw [hB.out]; omega
  have HE2 : Hid (post (.returned (.agg #[.int .i64 m.kind, .int .i64 m.frm, .int .i64 m.dst, .int .i64 m.term, .int .i64 m.index, .int .i64 m.logTerm, .int .i64 m.commit, (.slice ae ne ce), .int .i64 0, .int .i64 0, .slice none 0 0, .slice none 0 0, .slice none 0 0, .string ⟨#[]⟩, .bool false, .int .i64 0, .int .i64 m.ctx])) (setAll W3.drew (B + 1) [.int .i64 m.kind, .int .i64 m.frm, .int .i64 m.dst, .int .i64 m.term, .int .i64 m.index, .int .i64 m.logTerm, .int .i64 m.commit, (.slice ae ne ce), .int .i64 0, .int .i64 0, .slice none 0 0, .slice none 0 0, .slice none 0 0, .string ⟨#[]⟩, .bool false, .int .i64 0, .int .i64 m.ctx])) := by
    show post _ _
    rw [← HP.out]
    refine ⟨rfl, setAll_below ?_ ?_ _⟩
    · rw [hB.out]; exact HbW3.out.drew
    · rw [hB.out]; omega
  have HER : Hid ((setAll W3 (B + 1) [.int .i64 m.kind, .int .i64 m.frm, .int .i64 m.dst, .int .i64 m.term, .int .i64 m.index, .int .i64 m.logTerm, .int .i64 m.commit, (.slice ae ne ce), .int .i64 0, .int .i64 0, .slice none 0 0, .slice none 0 0, .slice none 0 0, .string ⟨#[]⟩, .bool false, .int .i64 0, .int .i64 m.ctx]).heap[B + 1]? = some (.cells #[.int .i64 m.kind, .int .i64 m.frm, .int .i64 m.dst, .int .i64 m.term, .int .i64 m.index, .int .i64 m.logTerm, .int .i64 m.commit, (.slice ae ne ce), .int .i64 0, .int .i64 0, .slice none 0 0, .slice none 0 0, .slice none 0 0, .string ⟨#[]⟩, .bool false, .int .i64 0, .int .i64 m.ctx] 29 (0, 0))) := setAll_at (xs := zeroMsg) HR3.out _ rfl
  have HR3d : Hid (W3.drew.heap[B + 1]? = some (.cells zeroMsg.toArray 29 (0, 0))) := HR3.out
  obtain ⟨W3d, hW3d⟩ := hide W3.drew
  rw [hW3d.out] at HR3d HE2
  have HER2 : Hid ((setAll W3d (B + 1) [.int .i64 m.kind, .int .i64 m.frm, .int .i64 m.dst, .int .i64 m.term, .int .i64 m.index, .int .i64 m.logTerm, .int .i64 m.commit, (.slice ae ne ce), .int .i64 0, .int .i64 0, .slice none 0 0, .slice none 0 0, .slice none 0 0, .string ⟨#[]⟩, .bool false, .int .i64 0, .int .i64 m.ctx]).heap[B + 1]? = some (.cells #[.int .i64 m.kind, .int .i64 m.frm, .int .i64 m.dst, .int .i64 m.term, .int .i64 m.index, .int .i64 m.logTerm, .int .i64 m.commit, (.slice ae ne ce), .int .i64 0, .int .i64 0, .slice none 0 0, .slice none 0 0, .slice none 0 0, .string ⟨#[]⟩, .bool false, .int .i64 0, .int .i64 m.ctx] 29 (0, 0))) := setAll_at (xs := zeroMsg) HR3d.out _ rfl
  have b0 := cell_n HBW.out 0 (v := .int .i64 m.kind) rfl
  have b1 := cell_n HBW.out 1 (v := .int .i64 m.frm) rfl
  have b2 := cell_n HBW.out 2 (v := .int .i64 m.dst) rfl
  have b3 := cell_n HBW.out 3 (v := .int .i64 m.term) rfl
  have t1 : (m.kind == 1) = false := beq_eq_false_iff_ne.2 (by omega)
  have t3 : (m.kind == 3) = false := beq_eq_false_iff_ne.2 (by omega)
  have t2 : (m.kind == 2) = false := beq_eq_false_iff_ne.2 (by omega)
  have t4 : (m.kind == 4) = false := beq_eq_false_iff_ne.2 (by omega)
  have t5 : (m.kind == 5) = true := beq_iff_eq.2 (by omega)
  clear hkd
  go_enter Try.func38, Try.ntmps38
  go_upto_region 1 with fail
  rw [hW.out]
  try rw [hB.out]
  go_upto_region 2 with fail
  rw [hW2.out]
  try rw [hC.out]
  clear b0 b1 b2 b3
  have b0 := cell_n HB2.out 0 (v := .int .i64 m.kind) rfl
  have b4 := cell_n HB2.out 4 (v := .int .i64 m.index) rfl
  have b5 := cell_n HB2.out 5 (v := .int .i64 m.logTerm) rfl
  have b6 := cell_n HB2.out 6 (v := .int .i64 m.commit) rfl
  have b7 := cell_n HB2.out 7 (v := (.slice ae ne ce)) rfl
  have b16 := cell_n HB2.out 16 (v := .int .i64 m.ctx) rfl
  have c4 := cell_n HC2.out 4 (v := .int .i64 0) rfl
  have f4 := free_n HC2.out 4
  have c5 := cell_n HC2.out 5 (v := .int .i64 0) rfl
  have f5 := free_n HC2.out 5
  have c6 := cell_n HC2.out 6 (v := .int .i64 0) rfl
  have f6 := free_n HC2.out 6
  have c7 := cell_n HC2.out 7 (v := .slice none 0 0) rfl
  have f7 := free_n HC2.out 7
  have c16 := cell_n HC2.out 16 (v := .int .i64 0) rfl
  have f16 := free_n HC2.out 16
  go_upto_region 10 with fail
  go_region
  go_upto_region 15 with fail
  rw [hW3.out]
  rw [hW3d.out]
  have HC3d : Hid (W3d.heap[C]? = some (.cells #[.int .i64 m.kind, .int .i64 m.frm, .int .i64 m.dst, .int .i64 m.term, .int .i64 m.index, .int .i64 m.logTerm, .int .i64 m.commit, (.slice ae ne ce), .int .i64 0, .int .i64 0, .slice none 0 0, .slice none 0 0, .slice none 0 0, .string ⟨#[]⟩, .bool false, .int .i64 0, .int .i64 m.ctx] 29 (0, 0))) := by show _ = _; rw [← hW3d.out]; exact HC3.out
  have hth : W3d.there (B + 1) 0 17 := there_of HR3d.out
  have Hth := Lib.hid hth
  clear hth
  refine wp_region_lit ?_
  refine wpList_load_row rfl 29 (.tmp 3) rfl C rfl 29 #[.int .i64 m.kind, .int .i64 m.frm, .int .i64 m.dst, .int .i64 m.term, .int .i64 m.index, .int .i64 m.logTerm, .int .i64 m.commit, (.slice ae ne ce), .int .i64 0, .int .i64 0, .slice none 0 0, .slice none 0 0, .slice none 0 0, .string ⟨#[]⟩, .bool false, .int .i64 0, .int .i64 m.ctx] (0, 0) _ HC3d.out Try.underlying29 rfl size_msg ?_
  refine wpList_store_mid rfl 29 (.tmp 2) (.tmp 69) rfl (B + 1) 0 #[.int .i64 m.kind, .int .i64 m.frm, .int .i64 m.dst, .int .i64 m.term, .int .i64 m.index, .int .i64 m.logTerm, .int .i64 m.commit, (.slice ae ne ce), .int .i64 0, .int .i64 0, .slice none 0 0, .slice none 0 0, .slice none 0 0, .string ⟨#[]⟩, .bool false, .int .i64 0, .int .i64 m.ctx] rfl rfl Hth.out size_msg (by simp [Value.oneCell']) ?_
  rw [setCells_eq]
  show wpList _ _ _ [] _ (setAll W3d (B + 1) [.int .i64 m.kind, .int .i64 m.frm, .int .i64 m.dst, .int .i64 m.term, .int .i64 m.index, .int .i64 m.logTerm, .int .i64 m.commit, (.slice ae ne ce), .int .i64 0, .int .i64 0, .slice none 0 0, .slice none 0 0, .slice none 0 0, .string ⟨#[]⟩, .bool false, .int .i64 0, .int .i64 m.ctx])
  generalize setAll W3d (B + 1) [.int .i64 m.kind, .int .i64 m.frm, .int .i64 m.dst, .int .i64 m.term, .int .i64 m.index, .int .i64 m.logTerm, .int .i64 m.commit, (.slice ae ne ce), .int .i64 0, .int .i64 0, .slice none 0 0, .slice none 0 0, .slice none 0 0, .string ⟨#[]⟩, .bool false, .int .i64 0, .int .i64 m.ctx] = W9 at HER2 HE2 ⊢
  go_wp2_with fail
  refine bodyPost_ret (results_cell_row rfl _ W9 (B + 1) 29 #[.int .i64 m.kind, .int .i64 m.frm, .int .i64 m.dst, .int .i64 m.term, .int .i64 m.index, .int .i64 m.logTerm, .int .i64 m.commit, (.slice ae ne ce), .int .i64 0, .int .i64 0, .slice none 0 0, .slice none 0 0, .slice none 0 0, .string ⟨#[]⟩, .bool false, .int .i64 0, .int .i64 m.ctx] (0, 0) _ rfl HER2.out Try.underlying29 rfl size_msg) rfl ?_
  exact HE2.out

set_option maxHeartbeats 4000000 in
set_option maxRecDepth 100000 in
theorem used_back (m : Msg) (ev x y z : Value) (w : World) (hx : IsSl ev ∧ IsSl x ∧ IsSl y ∧ IsSl z) (hkd : m.kind = 6) :
    Calls Try.prog 38 #[vMsg m ev x y z] w fun e w' => e = .returned (.agg #[.int .i64 m.kind, .int .i64 m.frm, .int .i64 m.dst, .int .i64 m.term, .int .i64 m.index, .int .i64 0, .int .i64 0, .slice none 0 0, .int .i64 0, .int .i64 0, .slice none 0 0, .slice none 0 0, .slice none 0 0, .string ⟨#[]⟩, .bool m.rej, .int .i64 m.hint, .int .i64 m.ctx]) ∧ Below w.heap.size w w' := by
  obtain ⟨post, HP⟩ := hide (fun (e : Ending) (w' : World) => e = .returned (.agg #[.int .i64 m.kind, .int .i64 m.frm, .int .i64 m.dst, .int .i64 m.term, .int .i64 m.index, .int .i64 0, .int .i64 0, .slice none 0 0, .int .i64 0, .int .i64 0, .slice none 0 0, .slice none 0 0, .slice none 0 0, .string ⟨#[]⟩, .bool m.rej, .int .i64 m.hint, .int .i64 m.ctx]) ∧ Below w.heap.size w w')
  rw [HP.out]
  obtain ⟨⟨ae, ne, ce, rfl⟩, ⟨ax, nx, cx, rfl⟩, ⟨ay, ny, cy, rfl⟩, ⟨az, nz, cz, rfl⟩⟩ := hx
  obtain ⟨W, hW⟩ := hide ((w.alloc (.cells (rowMsg m (.slice ae ne ce) (.slice ax nx cx) (.slice ay ny cy) (.slice az nz cz)).toArray 29)).alloc (.cells zeroMsg.toArray 29))
  obtain ⟨B, hB⟩ := hide w.heap.size
  have HbW : Hid (Below B w W) := by show Below _ _ _; rw [← hW.out, ← hB.out]; exact ((Below.refl _ _).alloc (Nat.le_refl _) _).alloc (by simp) _
  have HBW : Hid (W.heap[B]? = some (.cells (rowMsg m (.slice ae ne ce) (.slice ax nx cx) (.slice ay ny cy) (.slice az nz cz)).toArray 29 (0, 0))) := by show _ = _; rw [← hW.out, ← hB.out]; exact (hp_past _ _ (by simp)).trans (hp_at _ _ rfl)
  have HRW : Hid (W.heap[B + 1]? = some (.cells zeroMsg.toArray 29 (0, 0))) := by show _ = _; rw [← hW.out, ← hB.out]; exact hp_at _ _ (by simp)
  have HWs : Hid (W.heap.size = B + 2) := by show _ = _; rw [← hW.out, ← hB.out]; simp
  obtain ⟨W2, hW2⟩ := hide (W.alloc (.cells #[.int .i64 m.kind, .int .i64 m.frm, .int .i64 m.dst, .int .i64 m.term, .int .i64 0, .int .i64 0, .int .i64 0, .slice none 0 0, .int .i64 0, .int .i64 0, .slice none 0 0, .slice none 0 0, .slice none 0 0, .string ⟨#[]⟩, .bool false, .int .i64 0, .int .i64 0] 29))
  obtain ⟨C, hC⟩ := hide W.heap.size
  have HbW2 : Hid (Below B w W2) := by show Below _ _ _; rw [← hW2.out]; exact HbW.out.alloc (by rw [HWs.out]; omega) _
  have HB2 : Hid (W2.heap[B]? = some (.cells (rowMsg m (.slice ae ne ce) (.slice ax nx cx) (.slice ay ny cy) (.slice az nz cz)).toArray 29 (0, 0))) := by show _ = _; rw [← hW2.out, hp_past _ _ (by rw [HWs.out]; omega)]; exact HBW.out
  have HR2 : Hid (W2.heap[B + 1]? = some (.cells zeroMsg.toArray 29 (0, 0))) := by show _ = _; rw [← hW2.out, hp_past _ _ (by rw [HWs.out]; omega)]; exact HRW.out
  have HC2 : Hid (W2.heap[C]? = some (.cells #[.int .i64 m.kind, .int .i64 m.frm, .int .i64 m.dst, .int .i64 m.term, .int .i64 0, .int .i64 0, .int .i64 0, .slice none 0 0, .int .i64 0, .int .i64 0, .slice none 0 0, .slice none 0 0, .slice none 0 0, .string ⟨#[]⟩, .bool false, .int .i64 0, .int .i64 0] 29 (0, 0))) := by show _ = _; rw [← hW2.out, ← hC.out]; exact hp_at _ _ rfl
  have HCe : Hid (C = B + 2) := by show _ = _; rw [← hC.out]; exact HWs.out
  obtain ⟨k, hk⟩ := hide m.kind
  obtain ⟨W3, hW3⟩ := hide ((((W2.setCell ⟨C, 4, none⟩ (.int .i64 m.index)).setCell ⟨C, 14, none⟩ (.bool m.rej)).setCell ⟨C, 15, none⟩ (.int .i64 m.hint)).setCell ⟨C, 16, none⟩ (.int .i64 m.ctx))
  have HbW3 : Hid (Below B w W3) := by show Below _ _ _; rw [← hW3.out]; exact ((((HbW2.out.setCell (by show B ≤ C; rw [HCe.out]; omega) _).setCell (by show B ≤ C; rw [HCe.out]; omega) _).setCell (by show B ≤ C; rw [HCe.out]; omega) _).setCell (by show B ≤ C; rw [HCe.out]; omega) _)
  have HC3 : Hid (W3.heap[C]? = some (.cells #[.int .i64 m.kind, .int .i64 m.frm, .int .i64 m.dst, .int .i64 m.term, .int .i64 m.index, .int .i64 0, .int .i64 0, .slice none 0 0, .int .i64 0, .int .i64 0, .slice none 0 0, .slice none 0 0, .slice none 0 0, .string ⟨#[]⟩, .bool m.rej, .int .i64 m.hint, .int .i64 m.ctx] 29 (0, 0))) := by
    show _ = _
    rw [← hW3.out, heap_setCell, if_pos rfl, heap_setCell, if_pos rfl, heap_setCell, if_pos rfl, heap_setCell, if_pos rfl, HC2.out]
    rfl
  have HR3 : Hid (W3.heap[B + 1]? = some (.cells zeroMsg.toArray 29 (0, 0))) := by
    show _ = _
    rw [← hW3.out]
    exact (hp_set_other (hp_set_other (hp_set_other (hp_set_other HR2.out (by show C ≠ B + 1; rw [HCe.out]; omega)) (by show C ≠ B + 1; rw [HCe.out]; omega)) (by show C ≠ B + 1; rw [HCe.out]; omega)) (by show C ≠ B + 1; rw [HCe.out]; omega))
  have HE : Hid (post (.returned (.agg #[.int .i64 m.kind, .int .i64 m.frm, .int .i64 m.dst, .int .i64 m.term, .int .i64 m.index, .int .i64 0, .int .i64 0, .slice none 0 0, .int .i64 0, .int .i64 0, .slice none 0 0, .slice none 0 0, .slice none 0 0, .string ⟨#[]⟩, .bool m.rej, .int .i64 m.hint, .int .i64 m.ctx])) (setAll W3 (B + 1) [.int .i64 m.kind, .int .i64 m.frm, .int .i64 m.dst, .int .i64 m.term, .int .i64 m.index, .int .i64 0, .int .i64 0, .slice none 0 0, .int .i64 0, .int .i64 0, .slice none 0 0, .slice none 0 0, .slice none 0 0, .string ⟨#[]⟩, .bool m.rej, .int .i64 m.hint, .int .i64 m.ctx])) := by
    show post _ _
    rw [← HP.out]
    refine ⟨rfl, setAll_below ?_ ?_ _⟩
    · rw [hB.out]; exact HbW3.out
    · rw [hB.out]; omega
  have HE2 : Hid (post (.returned (.agg #[.int .i64 m.kind, .int .i64 m.frm, .int .i64 m.dst, .int .i64 m.term, .int .i64 m.index, .int .i64 0, .int .i64 0, .slice none 0 0, .int .i64 0, .int .i64 0, .slice none 0 0, .slice none 0 0, .slice none 0 0, .string ⟨#[]⟩, .bool m.rej, .int .i64 m.hint, .int .i64 m.ctx])) (setAll W3.drew (B + 1) [.int .i64 m.kind, .int .i64 m.frm, .int .i64 m.dst, .int .i64 m.term, .int .i64 m.index, .int .i64 0, .int .i64 0, .slice none 0 0, .int .i64 0, .int .i64 0, .slice none 0 0, .slice none 0 0, .slice none 0 0, .string ⟨#[]⟩, .bool m.rej, .int .i64 m.hint, .int .i64 m.ctx])) := by
    show post _ _
    rw [← HP.out]
    refine ⟨rfl, setAll_below ?_ ?_ _⟩
    · rw [hB.out]; exact HbW3.out.drew
    · rw [hB.out]; omega
  have HER : Hid ((setAll W3 (B + 1) [.int .i64 m.kind, .int .i64 m.frm, .int .i64 m.dst, .int .i64 m.term, .int .i64 m.index, .int .i64 0, .int .i64 0, .slice none 0 0, .int .i64 0, .int .i64 0, .slice none 0 0, .slice none 0 0, .slice none 0 0, .string ⟨#[]⟩, .bool m.rej, .int .i64 m.hint, .int .i64 m.ctx]).heap[B + 1]? = some (.cells #[.int .i64 m.kind, .int .i64 m.frm, .int .i64 m.dst, .int .i64 m.term, .int .i64 m.index, .int .i64 0, .int .i64 0, .slice none 0 0, .int .i64 0, .int .i64 0, .slice none 0 0, .slice none 0 0, .slice none 0 0, .string ⟨#[]⟩, .bool m.rej, .int .i64 m.hint, .int .i64 m.ctx] 29 (0, 0))) := setAll_at (xs := zeroMsg) HR3.out _ rfl
  have HR3d : Hid (W3.drew.heap[B + 1]? = some (.cells zeroMsg.toArray 29 (0, 0))) := HR3.out
  obtain ⟨W3d, hW3d⟩ := hide W3.drew
  rw [hW3d.out] at HR3d HE2
  have HER2 : Hid ((setAll W3d (B + 1) [.int .i64 m.kind, .int .i64 m.frm, .int .i64 m.dst, .int .i64 m.term, .int .i64 m.index, .int .i64 0, .int .i64 0, .slice none 0 0, .int .i64 0, .int .i64 0, .slice none 0 0, .slice none 0 0, .slice none 0 0, .string ⟨#[]⟩, .bool m.rej, .int .i64 m.hint, .int .i64 m.ctx]).heap[B + 1]? = some (.cells #[.int .i64 m.kind, .int .i64 m.frm, .int .i64 m.dst, .int .i64 m.term, .int .i64 m.index, .int .i64 0, .int .i64 0, .slice none 0 0, .int .i64 0, .int .i64 0, .slice none 0 0, .slice none 0 0, .slice none 0 0, .string ⟨#[]⟩, .bool m.rej, .int .i64 m.hint, .int .i64 m.ctx] 29 (0, 0))) := setAll_at (xs := zeroMsg) HR3d.out _ rfl
  have b0 := cell_n HBW.out 0 (v := .int .i64 m.kind) rfl
  have b1 := cell_n HBW.out 1 (v := .int .i64 m.frm) rfl
  have b2 := cell_n HBW.out 2 (v := .int .i64 m.dst) rfl
  have b3 := cell_n HBW.out 3 (v := .int .i64 m.term) rfl
  have t1 : (m.kind == 1) = false := beq_eq_false_iff_ne.2 (by omega)
  have t3 : (m.kind == 3) = false := beq_eq_false_iff_ne.2 (by omega)
  have t2 : (m.kind == 2) = false := beq_eq_false_iff_ne.2 (by omega)
  have t4 : (m.kind == 4) = false := beq_eq_false_iff_ne.2 (by omega)
  have t5 : (m.kind == 5) = false := beq_eq_false_iff_ne.2 (by omega)
  have t6 : (m.kind == 6) = true := beq_iff_eq.2 (by omega)
  clear hkd
  go_enter Try.func38, Try.ntmps38
  go_upto_region 1 with fail
  rw [hW.out]
  try rw [hB.out]
  go_upto_region 2 with fail
  rw [hW2.out]
  try rw [hC.out]
  clear b0 b1 b2 b3
  have b0 := cell_n HB2.out 0 (v := .int .i64 m.kind) rfl
  have b4 := cell_n HB2.out 4 (v := .int .i64 m.index) rfl
  have b14 := cell_n HB2.out 14 (v := .bool m.rej) rfl
  have b15 := cell_n HB2.out 15 (v := .int .i64 m.hint) rfl
  have b16 := cell_n HB2.out 16 (v := .int .i64 m.ctx) rfl
  have c4 := cell_n HC2.out 4 (v := .int .i64 0) rfl
  have f4 := free_n HC2.out 4
  have c14 := cell_n HC2.out 14 (v := .bool false) rfl
  have f14 := free_n HC2.out 14
  have c15 := cell_n HC2.out 15 (v := .int .i64 0) rfl
  have f15 := free_n HC2.out 15
  have c16 := cell_n HC2.out 16 (v := .int .i64 0) rfl
  have f16 := free_n HC2.out 16
  go_upto_region 12 with fail
  go_region
  go_upto_region 15 with fail
  rw [hW3.out]
  rw [hW3d.out]
  have HC3d : Hid (W3d.heap[C]? = some (.cells #[.int .i64 m.kind, .int .i64 m.frm, .int .i64 m.dst, .int .i64 m.term, .int .i64 m.index, .int .i64 0, .int .i64 0, .slice none 0 0, .int .i64 0, .int .i64 0, .slice none 0 0, .slice none 0 0, .slice none 0 0, .string ⟨#[]⟩, .bool m.rej, .int .i64 m.hint, .int .i64 m.ctx] 29 (0, 0))) := by show _ = _; rw [← hW3d.out]; exact HC3.out
  have hth : W3d.there (B + 1) 0 17 := there_of HR3d.out
  have Hth := Lib.hid hth
  clear hth
  refine wp_region_lit ?_
  refine wpList_load_row rfl 29 (.tmp 3) rfl C rfl 29 #[.int .i64 m.kind, .int .i64 m.frm, .int .i64 m.dst, .int .i64 m.term, .int .i64 m.index, .int .i64 0, .int .i64 0, .slice none 0 0, .int .i64 0, .int .i64 0, .slice none 0 0, .slice none 0 0, .slice none 0 0, .string ⟨#[]⟩, .bool m.rej, .int .i64 m.hint, .int .i64 m.ctx] (0, 0) _ HC3d.out Try.underlying29 rfl size_msg ?_
  refine wpList_store_mid rfl 29 (.tmp 2) (.tmp 69) rfl (B + 1) 0 #[.int .i64 m.kind, .int .i64 m.frm, .int .i64 m.dst, .int .i64 m.term, .int .i64 m.index, .int .i64 0, .int .i64 0, .slice none 0 0, .int .i64 0, .int .i64 0, .slice none 0 0, .slice none 0 0, .slice none 0 0, .string ⟨#[]⟩, .bool m.rej, .int .i64 m.hint, .int .i64 m.ctx] rfl rfl Hth.out size_msg (by simp [Value.oneCell']) ?_
  rw [setCells_eq]
  show wpList _ _ _ [] _ (setAll W3d (B + 1) [.int .i64 m.kind, .int .i64 m.frm, .int .i64 m.dst, .int .i64 m.term, .int .i64 m.index, .int .i64 0, .int .i64 0, .slice none 0 0, .int .i64 0, .int .i64 0, .slice none 0 0, .slice none 0 0, .slice none 0 0, .string ⟨#[]⟩, .bool m.rej, .int .i64 m.hint, .int .i64 m.ctx])
  generalize setAll W3d (B + 1) [.int .i64 m.kind, .int .i64 m.frm, .int .i64 m.dst, .int .i64 m.term, .int .i64 m.index, .int .i64 0, .int .i64 0, .slice none 0 0, .int .i64 0, .int .i64 0, .slice none 0 0, .slice none 0 0, .slice none 0 0, .string ⟨#[]⟩, .bool m.rej, .int .i64 m.hint, .int .i64 m.ctx] = W9 at HER2 HE2 ⊢
  go_wp2_with fail
  refine bodyPost_ret (results_cell_row rfl _ W9 (B + 1) 29 #[.int .i64 m.kind, .int .i64 m.frm, .int .i64 m.dst, .int .i64 m.term, .int .i64 m.index, .int .i64 0, .int .i64 0, .slice none 0 0, .int .i64 0, .int .i64 0, .slice none 0 0, .slice none 0 0, .slice none 0 0, .string ⟨#[]⟩, .bool m.rej, .int .i64 m.hint, .int .i64 m.ctx] (0, 0) _ rfl HER2.out Try.underlying29 rfl size_msg) rfl ?_
  exact HE2.out

set_option maxHeartbeats 4000000 in
set_option maxRecDepth 100000 in
theorem used_inst (m : Msg) (ev x y z : Value) (w : World) (hx : IsSl ev ∧ IsSl x ∧ IsSl y ∧ IsSl z) (hkd : m.kind = 7) :
    Calls Try.prog 38 #[vMsg m ev x y z] w fun e w' => e = .returned (.agg #[.int .i64 m.kind, .int .i64 m.frm, .int .i64 m.dst, .int .i64 m.term, .int .i64 0, .int .i64 0, .int .i64 0, .slice none 0 0, .int .i64 m.si, .int .i64 m.st, x, y, z, str m.sd, .bool false, .int .i64 0, .int .i64 m.ctx]) ∧ Below w.heap.size w w' := by
  obtain ⟨post, HP⟩ := hide (fun (e : Ending) (w' : World) => e = .returned (.agg #[.int .i64 m.kind, .int .i64 m.frm, .int .i64 m.dst, .int .i64 m.term, .int .i64 0, .int .i64 0, .int .i64 0, .slice none 0 0, .int .i64 m.si, .int .i64 m.st, x, y, z, str m.sd, .bool false, .int .i64 0, .int .i64 m.ctx]) ∧ Below w.heap.size w w')
  rw [HP.out]
  obtain ⟨⟨ae, ne, ce, rfl⟩, ⟨ax, nx, cx, rfl⟩, ⟨ay, ny, cy, rfl⟩, ⟨az, nz, cz, rfl⟩⟩ := hx
  obtain ⟨W, hW⟩ := hide ((w.alloc (.cells (rowMsg m (.slice ae ne ce) (.slice ax nx cx) (.slice ay ny cy) (.slice az nz cz)).toArray 29)).alloc (.cells zeroMsg.toArray 29))
  obtain ⟨B, hB⟩ := hide w.heap.size
  have HbW : Hid (Below B w W) := by show Below _ _ _; rw [← hW.out, ← hB.out]; exact ((Below.refl _ _).alloc (Nat.le_refl _) _).alloc (by simp) _
  have HBW : Hid (W.heap[B]? = some (.cells (rowMsg m (.slice ae ne ce) (.slice ax nx cx) (.slice ay ny cy) (.slice az nz cz)).toArray 29 (0, 0))) := by show _ = _; rw [← hW.out, ← hB.out]; exact (hp_past _ _ (by simp)).trans (hp_at _ _ rfl)
  have HRW : Hid (W.heap[B + 1]? = some (.cells zeroMsg.toArray 29 (0, 0))) := by show _ = _; rw [← hW.out, ← hB.out]; exact hp_at _ _ (by simp)
  have HWs : Hid (W.heap.size = B + 2) := by show _ = _; rw [← hW.out, ← hB.out]; simp
  obtain ⟨W2, hW2⟩ := hide (W.alloc (.cells #[.int .i64 m.kind, .int .i64 m.frm, .int .i64 m.dst, .int .i64 m.term, .int .i64 0, .int .i64 0, .int .i64 0, .slice none 0 0, .int .i64 0, .int .i64 0, .slice none 0 0, .slice none 0 0, .slice none 0 0, .string ⟨#[]⟩, .bool false, .int .i64 0, .int .i64 0] 29))
  obtain ⟨C, hC⟩ := hide W.heap.size
  have HbW2 : Hid (Below B w W2) := by show Below _ _ _; rw [← hW2.out]; exact HbW.out.alloc (by rw [HWs.out]; omega) _
  have HB2 : Hid (W2.heap[B]? = some (.cells (rowMsg m (.slice ae ne ce) (.slice ax nx cx) (.slice ay ny cy) (.slice az nz cz)).toArray 29 (0, 0))) := by show _ = _; rw [← hW2.out, hp_past _ _ (by rw [HWs.out]; omega)]; exact HBW.out
  have HR2 : Hid (W2.heap[B + 1]? = some (.cells zeroMsg.toArray 29 (0, 0))) := by show _ = _; rw [← hW2.out, hp_past _ _ (by rw [HWs.out]; omega)]; exact HRW.out
  have HC2 : Hid (W2.heap[C]? = some (.cells #[.int .i64 m.kind, .int .i64 m.frm, .int .i64 m.dst, .int .i64 m.term, .int .i64 0, .int .i64 0, .int .i64 0, .slice none 0 0, .int .i64 0, .int .i64 0, .slice none 0 0, .slice none 0 0, .slice none 0 0, .string ⟨#[]⟩, .bool false, .int .i64 0, .int .i64 0] 29 (0, 0))) := by show _ = _; rw [← hW2.out, ← hC.out]; exact hp_at _ _ rfl
  have HCe : Hid (C = B + 2) := by show _ = _; rw [← hC.out]; exact HWs.out
  obtain ⟨k, hk⟩ := hide m.kind
  obtain ⟨W3, hW3⟩ := hide (((((((W2.setCell ⟨C, 8, none⟩ (.int .i64 m.si)).setCell ⟨C, 9, none⟩ (.int .i64 m.st)).setCell ⟨C, 10, none⟩ ((.slice ax nx cx))).setCell ⟨C, 11, none⟩ ((.slice ay ny cy))).setCell ⟨C, 12, none⟩ ((.slice az nz cz))).setCell ⟨C, 13, none⟩ (str m.sd)).setCell ⟨C, 16, none⟩ (.int .i64 m.ctx))
  have HbW3 : Hid (Below B w W3) := by show Below _ _ _; rw [← hW3.out]; exact (((((((HbW2.out.setCell (by show B ≤ C; rw [HCe.out]; omega) _).setCell (by show B ≤ C; rw [HCe.out]; omega) _).setCell (by show B ≤ C; rw [HCe.out]; omega) _).setCell (by show B ≤ C; rw [HCe.out]; omega) _).setCell (by show B ≤ C; rw [HCe.out]; omega) _).setCell (by show B ≤ C; rw [HCe.out]; omega) _).setCell (by show B ≤ C; rw [HCe.out]; omega) _)
  have HC3 : Hid (W3.heap[C]? = some (.cells #[.int .i64 m.kind, .int .i64 m.frm, .int .i64 m.dst, .int .i64 m.term, .int .i64 0, .int .i64 0, .int .i64 0, .slice none 0 0, .int .i64 m.si, .int .i64 m.st, (.slice ax nx cx), (.slice ay ny cy), (.slice az nz cz), str m.sd, .bool false, .int .i64 0, .int .i64 m.ctx] 29 (0, 0))) := by
    show _ = _
    rw [← hW3.out, heap_setCell, if_pos rfl, heap_setCell, if_pos rfl, heap_setCell, if_pos rfl, heap_setCell, if_pos rfl, heap_setCell, if_pos rfl, heap_setCell, if_pos rfl, heap_setCell, if_pos rfl, HC2.out]
    rfl
  have HR3 : Hid (W3.heap[B + 1]? = some (.cells zeroMsg.toArray 29 (0, 0))) := by
    show _ = _
    rw [← hW3.out]
    exact (hp_set_other (hp_set_other (hp_set_other (hp_set_other (hp_set_other (hp_set_other (hp_set_other HR2.out (by show C ≠ B + 1; rw [HCe.out]; omega)) (by show C ≠ B + 1; rw [HCe.out]; omega)) (by show C ≠ B + 1; rw [HCe.out]; omega)) (by show C ≠ B + 1; rw [HCe.out]; omega)) (by show C ≠ B + 1; rw [HCe.out]; omega)) (by show C ≠ B + 1; rw [HCe.out]; omega)) (by show C ≠ B + 1; rw [HCe.out]; omega))
  have HE : Hid (post (.returned (.agg #[.int .i64 m.kind, .int .i64 m.frm, .int .i64 m.dst, .int .i64 m.term, .int .i64 0, .int .i64 0, .int .i64 0, .slice none 0 0, .int .i64 m.si, .int .i64 m.st, (.slice ax nx cx), (.slice ay ny cy), (.slice az nz cz), str m.sd, .bool false, .int .i64 0, .int .i64 m.ctx])) (setAll W3 (B + 1) [.int .i64 m.kind, .int .i64 m.frm, .int .i64 m.dst, .int .i64 m.term, .int .i64 0, .int .i64 0, .int .i64 0, .slice none 0 0, .int .i64 m.si, .int .i64 m.st, (.slice ax nx cx), (.slice ay ny cy), (.slice az nz cz), str m.sd, .bool false, .int .i64 0, .int .i64 m.ctx])) := by
    show post _ _
    rw [← HP.out]
    refine ⟨rfl, setAll_below ?_ ?_ _⟩
    · rw [hB.out]; exact HbW3.out
    · rw [hB.out]; omega
  have HE2 : Hid (post (.returned (.agg #[.int .i64 m.kind, .int .i64 m.frm, .int .i64 m.dst, .int .i64 m.term, .int .i64 0, .int .i64 0, .int .i64 0, .slice none 0 0, .int .i64 m.si, .int .i64 m.st, (.slice ax nx cx), (.slice ay ny cy), (.slice az nz cz), str m.sd, .bool false, .int .i64 0, .int .i64 m.ctx])) (setAll W3.drew (B + 1) [.int .i64 m.kind, .int .i64 m.frm, .int .i64 m.dst, .int .i64 m.term, .int .i64 0, .int .i64 0, .int .i64 0, .slice none 0 0, .int .i64 m.si, .int .i64 m.st, (.slice ax nx cx), (.slice ay ny cy), (.slice az nz cz), str m.sd, .bool false, .int .i64 0, .int .i64 m.ctx])) := by
    show post _ _
    rw [← HP.out]
    refine ⟨rfl, setAll_below ?_ ?_ _⟩
    · rw [hB.out]; exact HbW3.out.drew
    · rw [hB.out]; omega
  have HER : Hid ((setAll W3 (B + 1) [.int .i64 m.kind, .int .i64 m.frm, .int .i64 m.dst, .int .i64 m.term, .int .i64 0, .int .i64 0, .int .i64 0, .slice none 0 0, .int .i64 m.si, .int .i64 m.st, (.slice ax nx cx), (.slice ay ny cy), (.slice az nz cz), str m.sd, .bool false, .int .i64 0, .int .i64 m.ctx]).heap[B + 1]? = some (.cells #[.int .i64 m.kind, .int .i64 m.frm, .int .i64 m.dst, .int .i64 m.term, .int .i64 0, .int .i64 0, .int .i64 0, .slice none 0 0, .int .i64 m.si, .int .i64 m.st, (.slice ax nx cx), (.slice ay ny cy), (.slice az nz cz), str m.sd, .bool false, .int .i64 0, .int .i64 m.ctx] 29 (0, 0))) := setAll_at (xs := zeroMsg) HR3.out _ rfl
  have HR3d : Hid (W3.drew.heap[B + 1]? = some (.cells zeroMsg.toArray 29 (0, 0))) := HR3.out
  obtain ⟨W3d, hW3d⟩ := hide W3.drew
  rw [hW3d.out] at HR3d HE2
  have HER2 : Hid ((setAll W3d (B + 1) [.int .i64 m.kind, .int .i64 m.frm, .int .i64 m.dst, .int .i64 m.term, .int .i64 0, .int .i64 0, .int .i64 0, .slice none 0 0, .int .i64 m.si, .int .i64 m.st, (.slice ax nx cx), (.slice ay ny cy), (.slice az nz cz), str m.sd, .bool false, .int .i64 0, .int .i64 m.ctx]).heap[B + 1]? = some (.cells #[.int .i64 m.kind, .int .i64 m.frm, .int .i64 m.dst, .int .i64 m.term, .int .i64 0, .int .i64 0, .int .i64 0, .slice none 0 0, .int .i64 m.si, .int .i64 m.st, (.slice ax nx cx), (.slice ay ny cy), (.slice az nz cz), str m.sd, .bool false, .int .i64 0, .int .i64 m.ctx] 29 (0, 0))) := setAll_at (xs := zeroMsg) HR3d.out _ rfl
  have b0 := cell_n HBW.out 0 (v := .int .i64 m.kind) rfl
  have b1 := cell_n HBW.out 1 (v := .int .i64 m.frm) rfl
  have b2 := cell_n HBW.out 2 (v := .int .i64 m.dst) rfl
  have b3 := cell_n HBW.out 3 (v := .int .i64 m.term) rfl
  have t1 : (m.kind == 1) = false := beq_eq_false_iff_ne.2 (by omega)
  have t3 : (m.kind == 3) = false := beq_eq_false_iff_ne.2 (by omega)
  have t2 : (m.kind == 2) = false := beq_eq_false_iff_ne.2 (by omega)
  have t4 : (m.kind == 4) = false := beq_eq_false_iff_ne.2 (by omega)
  have t5 : (m.kind == 5) = false := beq_eq_false_iff_ne.2 (by omega)
  have t6 : (m.kind == 6) = false := beq_eq_false_iff_ne.2 (by omega)
  have t7 : (m.kind == 7) = true := beq_iff_eq.2 (by omega)
  clear hkd
  go_enter Try.func38, Try.ntmps38
  go_upto_region 1 with fail
  rw [hW.out]
  try rw [hB.out]
  go_upto_region 2 with fail
  rw [hW2.out]
  try rw [hC.out]
  clear b0 b1 b2 b3
  have b0 := cell_n HB2.out 0 (v := .int .i64 m.kind) rfl
  have b8 := cell_n HB2.out 8 (v := .int .i64 m.si) rfl
  have b9 := cell_n HB2.out 9 (v := .int .i64 m.st) rfl
  have b10 := cell_n HB2.out 10 (v := (.slice ax nx cx)) rfl
  have b11 := cell_n HB2.out 11 (v := (.slice ay ny cy)) rfl
  have b12 := cell_n HB2.out 12 (v := (.slice az nz cz)) rfl
  have b13 := cell_n HB2.out 13 (v := str m.sd) rfl
  have b16 := cell_n HB2.out 16 (v := .int .i64 m.ctx) rfl
  have c8 := cell_n HC2.out 8 (v := .int .i64 0) rfl
  have f8 := free_n HC2.out 8
  have c9 := cell_n HC2.out 9 (v := .int .i64 0) rfl
  have f9 := free_n HC2.out 9
  have c10 := cell_n HC2.out 10 (v := .slice none 0 0) rfl
  have f10 := free_n HC2.out 10
  have c11 := cell_n HC2.out 11 (v := .slice none 0 0) rfl
  have f11 := free_n HC2.out 11
  have c12 := cell_n HC2.out 12 (v := .slice none 0 0) rfl
  have f12 := free_n HC2.out 12
  have c13 := cell_n HC2.out 13 (v := .string ⟨#[]⟩) rfl
  have f13 := free_n HC2.out 13
  have c16 := cell_n HC2.out 16 (v := .int .i64 0) rfl
  have f16 := free_n HC2.out 16
  go_upto_region 14 with fail
  go_region
  go_upto_region 15 with fail
  rw [hW3.out]
  rw [hW3d.out]
  have HC3d : Hid (W3d.heap[C]? = some (.cells #[.int .i64 m.kind, .int .i64 m.frm, .int .i64 m.dst, .int .i64 m.term, .int .i64 0, .int .i64 0, .int .i64 0, .slice none 0 0, .int .i64 m.si, .int .i64 m.st, (.slice ax nx cx), (.slice ay ny cy), (.slice az nz cz), str m.sd, .bool false, .int .i64 0, .int .i64 m.ctx] 29 (0, 0))) := by show _ = _; rw [← hW3d.out]; exact HC3.out
  have hth : W3d.there (B + 1) 0 17 := there_of HR3d.out
  have Hth := Lib.hid hth
  clear hth
  refine wp_region_lit ?_
  refine wpList_load_row rfl 29 (.tmp 3) rfl C rfl 29 #[.int .i64 m.kind, .int .i64 m.frm, .int .i64 m.dst, .int .i64 m.term, .int .i64 0, .int .i64 0, .int .i64 0, .slice none 0 0, .int .i64 m.si, .int .i64 m.st, (.slice ax nx cx), (.slice ay ny cy), (.slice az nz cz), str m.sd, .bool false, .int .i64 0, .int .i64 m.ctx] (0, 0) _ HC3d.out Try.underlying29 rfl size_msg ?_
  refine wpList_store_mid rfl 29 (.tmp 2) (.tmp 69) rfl (B + 1) 0 #[.int .i64 m.kind, .int .i64 m.frm, .int .i64 m.dst, .int .i64 m.term, .int .i64 0, .int .i64 0, .int .i64 0, .slice none 0 0, .int .i64 m.si, .int .i64 m.st, (.slice ax nx cx), (.slice ay ny cy), (.slice az nz cz), str m.sd, .bool false, .int .i64 0, .int .i64 m.ctx] rfl rfl Hth.out size_msg (by simp [Value.oneCell']) ?_
  rw [setCells_eq]
  show wpList _ _ _ [] _ (setAll W3d (B + 1) [.int .i64 m.kind, .int .i64 m.frm, .int .i64 m.dst, .int .i64 m.term, .int .i64 0, .int .i64 0, .int .i64 0, .slice none 0 0, .int .i64 m.si, .int .i64 m.st, (.slice ax nx cx), (.slice ay ny cy), (.slice az nz cz), str m.sd, .bool false, .int .i64 0, .int .i64 m.ctx])
  generalize setAll W3d (B + 1) [.int .i64 m.kind, .int .i64 m.frm, .int .i64 m.dst, .int .i64 m.term, .int .i64 0, .int .i64 0, .int .i64 0, .slice none 0 0, .int .i64 m.si, .int .i64 m.st, (.slice ax nx cx), (.slice ay ny cy), (.slice az nz cz), str m.sd, .bool false, .int .i64 0, .int .i64 m.ctx] = W9 at HER2 HE2 ⊢
  go_wp2_with fail
  refine bodyPost_ret (results_cell_row rfl _ W9 (B + 1) 29 #[.int .i64 m.kind, .int .i64 m.frm, .int .i64 m.dst, .int .i64 m.term, .int .i64 0, .int .i64 0, .int .i64 0, .slice none 0 0, .int .i64 m.si, .int .i64 m.st, (.slice ax nx cx), (.slice ay ny cy), (.slice az nz cz), str m.sd, .bool false, .int .i64 0, .int .i64 m.ctx] (0, 0) _ rfl HER2.out Try.underlying29 rfl size_msg) rfl ?_
  exact HE2.out

set_option maxHeartbeats 4000000 in
set_option maxRecDepth 100000 in
theorem used_none (m : Msg) (ev x y z : Value) (w : World) (hx : IsSl ev ∧ IsSl x ∧ IsSl y ∧ IsSl z) (hkd : ¬ (1 ≤ m.kind ∧ m.kind ≤ 7)) :
    Calls Try.prog 38 #[vMsg m ev x y z] w fun e w' => e = .returned (.agg #[.int .i64 m.kind, .int .i64 m.frm, .int .i64 m.dst, .int .i64 m.term, .int .i64 0, .int .i64 0, .int .i64 0, .slice none 0 0, .int .i64 0, .int .i64 0, .slice none 0 0, .slice none 0 0, .slice none 0 0, .string ⟨#[]⟩, .bool false, .int .i64 0, .int .i64 0]) ∧ Below w.heap.size w w' := by
  obtain ⟨post, HP⟩ := hide (fun (e : Ending) (w' : World) => e = .returned (.agg #[.int .i64 m.kind, .int .i64 m.frm, .int .i64 m.dst, .int .i64 m.term, .int .i64 0, .int .i64 0, .int .i64 0, .slice none 0 0, .int .i64 0, .int .i64 0, .slice none 0 0, .slice none 0 0, .slice none 0 0, .string ⟨#[]⟩, .bool false, .int .i64 0, .int .i64 0]) ∧ Below w.heap.size w w')
  rw [HP.out]
  obtain ⟨⟨ae, ne, ce, rfl⟩, ⟨ax, nx, cx, rfl⟩, ⟨ay, ny, cy, rfl⟩, ⟨az, nz, cz, rfl⟩⟩ := hx
  obtain ⟨W, hW⟩ := hide ((w.alloc (.cells (rowMsg m (.slice ae ne ce) (.slice ax nx cx) (.slice ay ny cy) (.slice az nz cz)).toArray 29)).alloc (.cells zeroMsg.toArray 29))
  obtain ⟨B, hB⟩ := hide w.heap.size
  have HbW : Hid (Below B w W) := by show Below _ _ _; rw [← hW.out, ← hB.out]; exact ((Below.refl _ _).alloc (Nat.le_refl _) _).alloc (by simp) _
  have HBW : Hid (W.heap[B]? = some (.cells (rowMsg m (.slice ae ne ce) (.slice ax nx cx) (.slice ay ny cy) (.slice az nz cz)).toArray 29 (0, 0))) := by show _ = _; rw [← hW.out, ← hB.out]; exact (hp_past _ _ (by simp)).trans (hp_at _ _ rfl)
  have HRW : Hid (W.heap[B + 1]? = some (.cells zeroMsg.toArray 29 (0, 0))) := by show _ = _; rw [← hW.out, ← hB.out]; exact hp_at _ _ (by simp)
  have HWs : Hid (W.heap.size = B + 2) := by show _ = _; rw [← hW.out, ← hB.out]; simp
  obtain ⟨W2, hW2⟩ := hide (W.alloc (.cells #[.int .i64 m.kind, .int .i64 m.frm, .int .i64 m.dst, .int .i64 m.term, .int .i64 0, .int .i64 0, .int .i64 0, .slice none 0 0, .int .i64 0, .int .i64 0, .slice none 0 0, .slice none 0 0, .slice none 0 0, .string ⟨#[]⟩, .bool false, .int .i64 0, .int .i64 0] 29))
  obtain ⟨C, hC⟩ := hide W.heap.size
  have HbW2 : Hid (Below B w W2) := by show Below _ _ _; rw [← hW2.out]; exact HbW.out.alloc (by rw [HWs.out]; omega) _
  have HB2 : Hid (W2.heap[B]? = some (.cells (rowMsg m (.slice ae ne ce) (.slice ax nx cx) (.slice ay ny cy) (.slice az nz cz)).toArray 29 (0, 0))) := by show _ = _; rw [← hW2.out, hp_past _ _ (by rw [HWs.out]; omega)]; exact HBW.out
  have HR2 : Hid (W2.heap[B + 1]? = some (.cells zeroMsg.toArray 29 (0, 0))) := by show _ = _; rw [← hW2.out, hp_past _ _ (by rw [HWs.out]; omega)]; exact HRW.out
  have HC2 : Hid (W2.heap[C]? = some (.cells #[.int .i64 m.kind, .int .i64 m.frm, .int .i64 m.dst, .int .i64 m.term, .int .i64 0, .int .i64 0, .int .i64 0, .slice none 0 0, .int .i64 0, .int .i64 0, .slice none 0 0, .slice none 0 0, .slice none 0 0, .string ⟨#[]⟩, .bool false, .int .i64 0, .int .i64 0] 29 (0, 0))) := by show _ = _; rw [← hW2.out, ← hC.out]; exact hp_at _ _ rfl
  have HCe : Hid (C = B + 2) := by show _ = _; rw [← hC.out]; exact HWs.out
  obtain ⟨k, hk⟩ := hide m.kind
  obtain ⟨W3, hW3⟩ := hide W2
  have HbW3 : Hid (Below B w W3) := by show Below _ _ _; rw [← hW3.out]; exact HbW2.out
  have HC3 : Hid (W3.heap[C]? = some (.cells #[.int .i64 m.kind, .int .i64 m.frm, .int .i64 m.dst, .int .i64 m.term, .int .i64 0, .int .i64 0, .int .i64 0, .slice none 0 0, .int .i64 0, .int .i64 0, .slice none 0 0, .slice none 0 0, .slice none 0 0, .string ⟨#[]⟩, .bool false, .int .i64 0, .int .i64 0] 29 (0, 0))) := by
    show _ = _
    rw [← hW3.out, HC2.out]
  have HR3 : Hid (W3.heap[B + 1]? = some (.cells zeroMsg.toArray 29 (0, 0))) := by
    show _ = _
    rw [← hW3.out]
    exact HR2.out
  have HE : Hid (post (.returned (.agg #[.int .i64 m.kind, .int .i64 m.frm, .int .i64 m.dst, .int .i64 m.term, .int .i64 0, .int .i64 0, .int .i64 0, .slice none 0 0, .int .i64 0, .int .i64 0, .slice none 0 0, .slice none 0 0, .slice none 0 0, .string ⟨#[]⟩, .bool false, .int .i64 0, .int .i64 0])) (setAll W3 (B + 1) [.int .i64 m.kind, .int .i64 m.frm, .int .i64 m.dst, .int .i64 m.term, .int .i64 0, .int .i64 0, .int .i64 0, .slice none 0 0, .int .i64 0, .int .i64 0, .slice none 0 0, .slice none 0 0, .slice none 0 0, .string ⟨#[]⟩, .bool false, .int .i64 0, .int .i64 0])) := by
    show post _ _
    rw [← HP.out]
    refine ⟨rfl, setAll_below ?_ ?_ _⟩
    · rw [hB.out]; exact HbW3.out
    · rw [hB.out]; omega
  have HE2 : Hid (post (.returned (.agg #[.int .i64 m.kind, .int .i64 m.frm, .int .i64 m.dst, .int .i64 m.term, .int .i64 0, .int .i64 0, .int .i64 0, .slice none 0 0, .int .i64 0, .int .i64 0, .slice none 0 0, .slice none 0 0, .slice none 0 0, .string ⟨#[]⟩, .bool false, .int .i64 0, .int .i64 0])) (setAll W3.drew (B + 1) [.int .i64 m.kind, .int .i64 m.frm, .int .i64 m.dst, .int .i64 m.term, .int .i64 0, .int .i64 0, .int .i64 0, .slice none 0 0, .int .i64 0, .int .i64 0, .slice none 0 0, .slice none 0 0, .slice none 0 0, .string ⟨#[]⟩, .bool false, .int .i64 0, .int .i64 0])) := by
    show post _ _
    rw [← HP.out]
    refine ⟨rfl, setAll_below ?_ ?_ _⟩
    · rw [hB.out]; exact HbW3.out.drew
    · rw [hB.out]; omega
  have HER : Hid ((setAll W3 (B + 1) [.int .i64 m.kind, .int .i64 m.frm, .int .i64 m.dst, .int .i64 m.term, .int .i64 0, .int .i64 0, .int .i64 0, .slice none 0 0, .int .i64 0, .int .i64 0, .slice none 0 0, .slice none 0 0, .slice none 0 0, .string ⟨#[]⟩, .bool false, .int .i64 0, .int .i64 0]).heap[B + 1]? = some (.cells #[.int .i64 m.kind, .int .i64 m.frm, .int .i64 m.dst, .int .i64 m.term, .int .i64 0, .int .i64 0, .int .i64 0, .slice none 0 0, .int .i64 0, .int .i64 0, .slice none 0 0, .slice none 0 0, .slice none 0 0, .string ⟨#[]⟩, .bool false, .int .i64 0, .int .i64 0] 29 (0, 0))) := setAll_at (xs := zeroMsg) HR3.out _ rfl
  have HR3d : Hid (W3.drew.heap[B + 1]? = some (.cells zeroMsg.toArray 29 (0, 0))) := HR3.out
  obtain ⟨W3d, hW3d⟩ := hide W3.drew
  rw [hW3d.out] at HR3d HE2
  have HER2 : Hid ((setAll W3d (B + 1) [.int .i64 m.kind, .int .i64 m.frm, .int .i64 m.dst, .int .i64 m.term, .int .i64 0, .int .i64 0, .int .i64 0, .slice none 0 0, .int .i64 0, .int .i64 0, .slice none 0 0, .slice none 0 0, .slice none 0 0, .string ⟨#[]⟩, .bool false, .int .i64 0, .int .i64 0]).heap[B + 1]? = some (.cells #[.int .i64 m.kind, .int .i64 m.frm, .int .i64 m.dst, .int .i64 m.term, .int .i64 0, .int .i64 0, .int .i64 0, .slice none 0 0, .int .i64 0, .int .i64 0, .slice none 0 0, .slice none 0 0, .slice none 0 0, .string ⟨#[]⟩, .bool false, .int .i64 0, .int .i64 0] 29 (0, 0))) := setAll_at (xs := zeroMsg) HR3d.out _ rfl
  have b0 := cell_n HBW.out 0 (v := .int .i64 m.kind) rfl
  have b1 := cell_n HBW.out 1 (v := .int .i64 m.frm) rfl
  have b2 := cell_n HBW.out 2 (v := .int .i64 m.dst) rfl
  have b3 := cell_n HBW.out 3 (v := .int .i64 m.term) rfl
  have t1 : (m.kind == 1) = false := beq_eq_false_iff_ne.2 (by omega)
  have t3 : (m.kind == 3) = false := beq_eq_false_iff_ne.2 (by omega)
  have t2 : (m.kind == 2) = false := beq_eq_false_iff_ne.2 (by omega)
  have t4 : (m.kind == 4) = false := beq_eq_false_iff_ne.2 (by omega)
  have t5 : (m.kind == 5) = false := beq_eq_false_iff_ne.2 (by omega)
  have t6 : (m.kind == 6) = false := beq_eq_false_iff_ne.2 (by omega)
  have t7 : (m.kind == 7) = false := beq_eq_false_iff_ne.2 (by omega)
  clear hkd
  go_enter Try.func38, Try.ntmps38
  go_upto_region 1 with fail
  rw [hW.out]
  try rw [hB.out]
  go_upto_region 2 with fail
  rw [hW2.out]
  try rw [hC.out]
  clear b0 b1 b2 b3
  have b0 := cell_n HB2.out 0 (v := .int .i64 m.kind) rfl
  go_upto_region 15 with fail
  try rw [hW3.out]
  have hth : W3.there (B + 1) 0 17 := there_of HR3.out
  have Hth := Lib.hid hth
  clear hth
  refine wp_region_lit ?_
  refine wpList_load_row rfl 29 (.tmp 3) rfl C rfl 29 #[.int .i64 m.kind, .int .i64 m.frm, .int .i64 m.dst, .int .i64 m.term, .int .i64 0, .int .i64 0, .int .i64 0, .slice none 0 0, .int .i64 0, .int .i64 0, .slice none 0 0, .slice none 0 0, .slice none 0 0, .string ⟨#[]⟩, .bool false, .int .i64 0, .int .i64 0] (0, 0) _ HC3.out Try.underlying29 rfl size_msg ?_
  refine wpList_store_mid rfl 29 (.tmp 2) (.tmp 69) rfl (B + 1) 0 #[.int .i64 m.kind, .int .i64 m.frm, .int .i64 m.dst, .int .i64 m.term, .int .i64 0, .int .i64 0, .int .i64 0, .slice none 0 0, .int .i64 0, .int .i64 0, .slice none 0 0, .slice none 0 0, .slice none 0 0, .string ⟨#[]⟩, .bool false, .int .i64 0, .int .i64 0] rfl rfl Hth.out size_msg (by simp [Value.oneCell']) ?_
  rw [setCells_eq]
  show wpList _ _ _ [] _ (setAll W3 (B + 1) [.int .i64 m.kind, .int .i64 m.frm, .int .i64 m.dst, .int .i64 m.term, .int .i64 0, .int .i64 0, .int .i64 0, .slice none 0 0, .int .i64 0, .int .i64 0, .slice none 0 0, .slice none 0 0, .slice none 0 0, .string ⟨#[]⟩, .bool false, .int .i64 0, .int .i64 0])
  generalize setAll W3 (B + 1) [.int .i64 m.kind, .int .i64 m.frm, .int .i64 m.dst, .int .i64 m.term, .int .i64 0, .int .i64 0, .int .i64 0, .slice none 0 0, .int .i64 0, .int .i64 0, .slice none 0 0, .slice none 0 0, .slice none 0 0, .string ⟨#[]⟩, .bool false, .int .i64 0, .int .i64 0] = W9 at HER HE ⊢
  go_wp2_with fail
  refine bodyPost_ret (results_cell_row rfl _ W9 (B + 1) 29 #[.int .i64 m.kind, .int .i64 m.frm, .int .i64 m.dst, .int .i64 m.term, .int .i64 0, .int .i64 0, .int .i64 0, .slice none 0 0, .int .i64 0, .int .i64 0, .slice none 0 0, .slice none 0 0, .slice none 0 0, .string ⟨#[]⟩, .bool false, .int .i64 0, .int .i64 0] (0, 0) _ rfl HER.out Try.underlying29 rfl size_msg) rfl ?_
  exact HE.out
end Go.Proofs.Ytkcllpbbjlbfaaa
