/-
  What a reading of all bytes comes to: the deferred catch, and the reading itself.
-/
import Derived.Test.YtbonmeogmjfkeaaRp
import Derived.Test.YtbonmeogmjfkeaaCatch
namespace Go.Proofs.Ytbonmeogmjfkeaa
open Go.RowKit Wm Mm
set_option linter.unusedVariables false

theorem assert_stop (x : Value) (w : World) : (Instr.typeAssert (.iface 161 x) 20 161 true).run Try.prog w = .ok (.tuple #[x, .bool true]) w := by
  simp [Instr.typeAssert, run_underlying Try.underlying161]
theorem assert_nil (w : World) : (Instr.typeAssert .nilIface 20 161 true).run Try.prog w = .ok (.tuple #[.agg #[.int .i64 0], .bool false]) w := by
  kernel_rfl

set_option maxHeartbeats 1000000 in
theorem catch_ints (bx : Nat) (x : Value) (z0 z : Int) (w : World) (hx : w.heap[bx]? = some (.cells #[x] 25 (0, 0))) (he : w.heap[bx + 1]? = some (.cells #[.int .i64 z0] 22 (0, 0))) :
    CallsD Try.prog 146 #[.pointer (some ⟨bx, 0, none⟩), .pointer (some ⟨bx + 1, 0, none⟩)] (.panicking [{ v := .iface 161 (.agg #[.int .i64 z]), recovered := false }]) w fun e u' w' =>
      e = .returned (.tuple #[]) ∧ u' = .panicking [{ v := .iface 161 (.agg #[.int .i64 z]), recovered := true }] ∧
      w'.heap[bx]? = some (.cells #[.slice none 0 0] 25 (0, 0)) ∧ w'.heap[bx + 1]? = some (.cells #[.int .i64 z] 22 (0, 0)) ∧ Below bx w w' := by
  refine callsD_of_wpS Try.func146 rfl fun c₀ cs hu => ?_
  refine wpS_seq_recover rfl (by simp [go_sem]) (v := .iface 161 (.agg #[.int .i64 z])) (cs' := { c₀ with mode := .panicking [{ v := .iface 161 (.agg #[.int .i64 z]), recovered := true }] } :: cs) ?_ ?_
  · simp [recovered, recoverD, hu]
  simp only [Try.ntmps146, List.size_toArray, List.length_cons, List.length_nil, Nat.reduceAdd, Nat.reduceSub, Array.replicate_succ, Array.replicate_zero, List.push_toArray, List.append_toArray, List.nil_append, List.cons_append]
  have l1 := lt_of_block hx
  have l2 := lt_of_block he
  have n1 : w.heap.size ≠ bx := by omega
  have n2 : w.heap.size ≠ bx + 1 := by omega
  have cx := cell_of_one hx
  have ce := cell_of_one he
  have fx := free_of_one hx
  have fe := free_of_one he
  have Hx := Lib.hid hx
  have He := Lib.hid he
  clear hx he
  have k1 := assert_stop
  go_wp2
  go_region
  go_wp2
  refine ⟨rfl, _, rfl, _, results_none rfl _ _ _, rfl, rfl, ?_, ?_, ?_⟩
  · rw [hp_drew, hp_alloc, if_neg (by simp; omega), heap_setCell, if_neg (by simp), heap_setCell, if_pos rfl, Hx.out]; rfl
  · rw [hp_drew, hp_alloc, if_neg (by simp; omega), heap_setCell, if_pos rfl, heap_setCell, if_neg (by simp), He.out]; rfl
  · exact ((((Below.refl bx w).setCell (p := ⟨bx, 0, none⟩) (Nat.le_refl _) _).setCell (p := ⟨bx + 1, 0, none⟩) (Nat.le_succ _) _).alloc (by simp; omega) _).drew

set_option maxHeartbeats 1000000 in
theorem idle_ints (p q : Addr) (w : World) :
    CallsD Try.prog 146 #[.pointer (some p), .pointer (some q)] .returning w fun e u' w' =>
      e = .returned (.tuple #[]) ∧ u' = .returning ∧ w.alloc (.cells #[.int .i64 0] 161) = w' := by
  refine callsD_of_wpS Try.func146 rfl fun c₀ cs hu => ?_
  refine wpS_seq_recover rfl (by simp [go_sem]) (v := .nilIface) (cs' := c₀ :: cs) ?_ ?_
  · simp [recovered, recoverD, hu]
  simp only [Try.ntmps146, List.size_toArray, List.length_cons, List.length_nil, Nat.reduceAdd, Nat.reduceSub, Array.replicate_succ, Array.replicate_zero, List.push_toArray, List.append_toArray, List.nil_append, List.cons_append]
  have k1 := assert_nil
  go_wp2
  refine ⟨rfl, .returning, ?_, _, results_none rfl _ _ _, rfl, rfl, rfl⟩
  cases c₀
  simp_all
end Go.Proofs.Ytbonmeogmjfkeaa
