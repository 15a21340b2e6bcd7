/-
  Reading messages: all bytes, the deferred catch.
-/
import Derived.Test.YtkcllpbbjlbfaaaMsk
import Derived.Test.YtkcllpbbjlbfaaaRc
import Derived.Handy
import Derived.Deep.MidRow
namespace Go.Proofs.Ytkcllpbbjlbfaaa
open Go.RowKit Wm Mm Lg
set_option linter.unusedVariables false

set_option maxHeartbeats 8000000 in
set_option maxRecDepth 100000 in
theorem catch_msg (bx : Nat) (x0 x1 x2 x3 x4 x5 x6 x7 x8 x9 x10 x11 x12 x13 x14 x15 x16 : Value) (z0 z : Int) (w : World) (hx : w.heap[bx]? = some (.cells #[x0, x1, x2, x3, x4, x5, x6, x7, x8, x9, x10, x11, x12, x13, x14, x15, x16] 29 (0, 0))) (he : w.heap[bx + 1]? = some (.cells #[.int .i64 z0] 31 (0, 0))) :
    CallsD Try.prog 49 #[.pointer (some ⟨bx, 0, none⟩), .pointer (some ⟨bx + 1, 0, none⟩)] (.panicking [{ v := .iface 79 (.agg #[.int .i64 z]), recovered := false }]) w fun e u' w' =>
      e = .returned (.tuple #[]) ∧ u' = .panicking [{ v := .iface 79 (.agg #[.int .i64 z]), recovered := true }] ∧
      w'.heap[bx]? = some (.cells #[.int .i64 0, .int .i64 0, .int .i64 0, .int .i64 0, .int .i64 0, .int .i64 0, .int .i64 0, .slice none 0 0, .int .i64 0, .int .i64 0, .slice none 0 0, .slice none 0 0, .slice none 0 0, str [], .bool false, .int .i64 0, .int .i64 0] 29 (0, 0)) ∧ w'.heap[bx + 1]? = some (.cells #[.int .i64 z] 31 (0, 0)) ∧ Below bx w w' := by
  refine callsD_of_wpS Try.func49 rfl fun c₀ cs hu => ?_
  refine wpS_seq_recover rfl (by simp [go_sem]) (v := .iface 79 (.agg #[.int .i64 z])) (cs' := { c₀ with mode := .panicking [{ v := .iface 79 (.agg #[.int .i64 z]), recovered := true }] } :: cs) ?_ ?_
  · simp [recovered, recoverD, hu]
  simp only [Try.ntmps49, List.size_toArray, List.length_cons, List.length_nil, Nat.reduceAdd, Nat.reduceSub, Array.replicate_succ, Array.replicate_zero, List.push_toArray, List.append_toArray, List.nil_append, List.cons_append]
  have l1 := lt_of_block hx
  have l2 := lt_of_block he
  have n1 : w.heap.size ≠ bx := by omega
  have n2 : w.heap.size ≠ bx + 1 := by omega
  have Hx := Lib.hid hx
  have He := Lib.hid he
  clear hx he
  have k1 := assert_stop
  obtain ⟨W2, hW2⟩ := hide ((w.alloc (.cells #[.int .i64 z] 79)).alloc (.cells #[.int .i64 0, .int .i64 0, .int .i64 0, .int .i64 0, .int .i64 0, .int .i64 0, .int .i64 0, .slice none 0 0, .int .i64 0, .int .i64 0, .slice none 0 0, .slice none 0 0, .slice none 0 0, str [], .bool false, .int .i64 0, .int .i64 0] 29))
  have h0 : W2.heap[w.heap.size]? = some (.cells #[.int .i64 z] 79 (0, 0)) := by rw [← hW2.out]; exact (hp_past _ _ (by simp only [World.size_alloc]; omega)).trans (hp_at _ _ rfl)
  have h1 : W2.heap[w.heap.size + 1]? = some (.cells #[.int .i64 0, .int .i64 0, .int .i64 0, .int .i64 0, .int .i64 0, .int .i64 0, .int .i64 0, .slice none 0 0, .int .i64 0, .int .i64 0, .slice none 0 0, .slice none 0 0, .slice none 0 0, str [], .bool false, .int .i64 0, .int .i64 0] 29 (0, 0)) := by rw [← hW2.out]; exact hp_at _ _ (by simp only [World.size_alloc])
  have hx2 : W2.heap[bx]? = some (.cells #[x0, x1, x2, x3, x4, x5, x6, x7, x8, x9, x10, x11, x12, x13, x14, x15, x16] 29 (0, 0)) := by rw [← hW2.out]; exact (hp_past _ _ (by simp only [World.size_alloc]; omega)).trans ((hp_past _ _ (by omega)).trans Hx.out)
  have he2 : W2.heap[bx + 1]? = some (.cells #[.int .i64 z0] 31 (0, 0)) := by rw [← hW2.out]; exact (hp_past _ _ (by simp only [World.size_alloc]; omega)).trans ((hp_past _ _ (by omega)).trans He.out)
  have hb2 : Below bx w W2 := by rw [← hW2.out]; exact ((Below.refl _ _).alloc (by omega) _).alloc (by simp; omega) _
  go_upto_region 3 with fail
  rw [hW2.out]
  have k0 := cell_of_one h0
  have d0 := cell_n h1 0 (v := .int .i64 0) rfl
  have d1 := cell_n h1 1 (v := .int .i64 0) rfl
  have d2 := cell_n h1 2 (v := .int .i64 0) rfl
  have d3 := cell_n h1 3 (v := .int .i64 0) rfl
  have d4 := cell_n h1 4 (v := .int .i64 0) rfl
  have d5 := cell_n h1 5 (v := .int .i64 0) rfl
  have d6 := cell_n h1 6 (v := .int .i64 0) rfl
  have d7 := cell_n h1 7 (v := .slice none 0 0) rfl
  have d8 := cell_n h1 8 (v := .int .i64 0) rfl
  have d9 := cell_n h1 9 (v := .int .i64 0) rfl
  have d10 := cell_n h1 10 (v := .slice none 0 0) rfl
  have d11 := cell_n h1 11 (v := .slice none 0 0) rfl
  have d12 := cell_n h1 12 (v := .slice none 0 0) rfl
  have d13 := cell_n h1 13 (v := str []) rfl
  have d14 := cell_n h1 14 (v := .bool false) rfl
  have d15 := cell_n h1 15 (v := .int .i64 0) rfl
  have d16 := cell_n h1 16 (v := .int .i64 0) rfl
  have g0 := cell_n hx2 0 (v := x0) rfl
  have g1 := cell_n hx2 1 (v := x1) rfl
  have g2 := cell_n hx2 2 (v := x2) rfl
  have g3 := cell_n hx2 3 (v := x3) rfl
  have g4 := cell_n hx2 4 (v := x4) rfl
  have g5 := cell_n hx2 5 (v := x5) rfl
  have g6 := cell_n hx2 6 (v := x6) rfl
  have g7 := cell_n hx2 7 (v := x7) rfl
  have g8 := cell_n hx2 8 (v := x8) rfl
  have g9 := cell_n hx2 9 (v := x9) rfl
  have g10 := cell_n hx2 10 (v := x10) rfl
  have g11 := cell_n hx2 11 (v := x11) rfl
  have g12 := cell_n hx2 12 (v := x12) rfl
  have g13 := cell_n hx2 13 (v := x13) rfl
  have g14 := cell_n hx2 14 (v := x14) rfl
  have g15 := cell_n hx2 15 (v := x15) rfl
  have g16 := cell_n hx2 16 (v := x16) rfl
  have f0 := free_n hx2 0
  have f1 := free_n hx2 1
  have f2 := free_n hx2 2
  have f3 := free_n hx2 3
  have f4 := free_n hx2 4
  have f5 := free_n hx2 5
  have f6 := free_n hx2 6
  have f7 := free_n hx2 7
  have f8 := free_n hx2 8
  have f9 := free_n hx2 9
  have f10 := free_n hx2 10
  have f11 := free_n hx2 11
  have f12 := free_n hx2 12
  have f13 := free_n hx2 13
  have f14 := free_n hx2 14
  have f15 := free_n hx2 15
  have f16 := free_n hx2 16
  have ce := cell_of_one he2
  have fe := free_of_one he2
  have Hx2 := Lib.hid hx2
  have He2 := Lib.hid he2
  have Hb2 := Lib.hid hb2
  obtain ⟨S, hS⟩ := hide w.heap.size
  rw [hS.out]
  rw [hS.out] at k0 d0 d1 d2 d3 d4 d5 d6 d7 d8 d9 d10 d11 d12 d13 d14 d15 d16
  rw [hS.out] at n1 n2
  have n3 : bx ≠ S := fun e => n1 e.symm
  have n4 : bx + 1 ≠ S := fun e => n2 e.symm
  have n5 : S + 1 ≠ bx := by have := hS.out; omega
  have n6 : bx ≠ S + 1 := by have := hS.out; omega
  clear h0 h1 hx2 he2 hb2 Hx He
  go_region
  go_wp2
  have e1 := setAll_at Hx2.out [.int .i64 0, .int .i64 0, .int .i64 0, .int .i64 0, .int .i64 0, .int .i64 0, .int .i64 0, .slice none 0 0, .int .i64 0, .int .i64 0, .slice none 0 0, .slice none 0 0, .slice none 0 0, str [], .bool false, .int .i64 0, .int .i64 0] rfl
  have e2 := setAll_other (b := bx) He2.out (by omega) [.int .i64 0, .int .i64 0, .int .i64 0, .int .i64 0, .int .i64 0, .int .i64 0, .int .i64 0, .slice none 0 0, .int .i64 0, .int .i64 0, .slice none 0 0, .slice none 0 0, .slice none 0 0, str [], .bool false, .int .i64 0, .int .i64 0]
  have e3 := setAll_below Hb2.out (Nat.le_refl _) [.int .i64 0, .int .i64 0, .int .i64 0, .int .i64 0, .int .i64 0, .int .i64 0, .int .i64 0, .slice none 0 0, .int .i64 0, .int .i64 0, .slice none 0 0, .slice none 0 0, .slice none 0 0, str [], .bool false, .int .i64 0, .int .i64 0]
  refine ⟨rfl, _, rfl, _, results_none rfl _ _ _, rfl, rfl, ?_, ?_, ?_⟩
  · rw [hp_drew]; exact hp_set_other e1 (by simp)
  · rw [hp_drew]; exact one_setCell e2
  · exact (e3.setCell (p := ⟨bx + 1, 0, none⟩) (Nat.le_succ _) _).drew

set_option maxHeartbeats 8000000 in
set_option maxRecDepth 100000 in
theorem idle_msg (p q : Addr) (w : World) :
    CallsD Try.prog 49 #[.pointer (some p), .pointer (some q)] .returning w fun e u' w' =>
      e = .returned (.tuple #[]) ∧ u' = .returning ∧ w.alloc (.cells #[.int .i64 0] 79) = w' := by
  refine callsD_of_wpS Try.func49 rfl fun c₀ cs hu => ?_
  refine wpS_seq_recover rfl (by simp [go_sem]) (v := .nilIface) (cs' := c₀ :: cs) ?_ ?_
  · simp [recovered, recoverD, hu]
  simp only [Try.ntmps49, List.size_toArray, List.length_cons, List.length_nil, Nat.reduceAdd, Nat.reduceSub, Array.replicate_succ, Array.replicate_zero, List.push_toArray, List.append_toArray, List.nil_append, List.cons_append]
  have k1 := assert_nil
  go_wp2
  refine ⟨rfl, .returning, ?_, _, results_none rfl _ _ _, rfl, rfl, rfl⟩
  cases c₀
  simp_all

end Go.Proofs.Ytkcllpbbjlbfaaa
