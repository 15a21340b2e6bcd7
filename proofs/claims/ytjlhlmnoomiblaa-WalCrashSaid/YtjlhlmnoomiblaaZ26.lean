/-
  Reading entries: all bytes, the deferred catch.
-/
import Derived.Test.YtjlhlmnoomiblaaZ16
import Derived.Test.YtjlhlmnoomiblaaZ11
import Derived.Handy
namespace Go.Proofs.Ytjlhlmnoomiblaa
open Go.RowKit Wm Mm
set_option linter.unusedVariables false

set_option maxHeartbeats 2000000 in
theorem catch_ent (bx : Nat) (x0 x1 x2 x3 : Value) (z0 z : Int) (w : World) (hx : w.heap[bx]? = some (.cells #[x0, x1, x2, x3] 37 (0, 0))) (he : w.heap[bx + 1]? = some (.cells #[.int .i64 z0] 49 (0, 0))) :
    CallsD Try.prog 57 #[.pointer (some ⟨bx, 0, none⟩), .pointer (some ⟨bx + 1, 0, none⟩)] (.panicking [{ v := .iface 76 (.agg #[.int .i64 z]), recovered := false }]) w fun e u' w' =>
      e = .returned (.tuple #[]) ∧ u' = .panicking [{ v := .iface 76 (.agg #[.int .i64 z]), recovered := true }] ∧
      w'.heap[bx]? = some (.cells #[.int .i64 0, .int .i64 0, .int .i64 0, str []] 37 (0, 0)) ∧ w'.heap[bx + 1]? = some (.cells #[.int .i64 z] 49 (0, 0)) ∧ Below bx w w' := by
  refine callsD_of_wpS Try.func57 rfl fun c₀ cs hu => ?_
  refine wpS_seq_recover rfl (by simp [go_sem]) (v := .iface 76 (.agg #[.int .i64 z])) (cs' := { c₀ with mode := .panicking [{ v := .iface 76 (.agg #[.int .i64 z]), recovered := true }] } :: cs) ?_ ?_
  · simp [recovered, recoverD, hu]
  simp only [Try.ntmps57, List.size_toArray, List.length_cons, List.length_nil, Nat.reduceAdd, Nat.reduceSub, Array.replicate_succ, Array.replicate_zero, List.push_toArray, List.append_toArray, List.nil_append, List.cons_append]
  have l1 := lt_of_block hx
  have l2 := lt_of_block he
  have n1 : w.heap.size ≠ bx := by omega
  have n2 : w.heap.size ≠ bx + 1 := by omega
  have Hx := Lib.hid hx
  have He := Lib.hid he
  clear hx he
  have k1 := assert_stop
  obtain ⟨W2, hW2⟩ := hide ((w.alloc (.cells #[.int .i64 z] 76)).alloc (.cells #[.int .i64 0, .int .i64 0, .int .i64 0, str []] 37))
  have h0 : W2.heap[w.heap.size]? = some (.cells #[.int .i64 z] 76 (0, 0)) := by rw [← hW2.out]; exact (hp_past _ _ (by simp only [World.size_alloc]; omega)).trans (hp_at _ _ rfl)
  have h1 : W2.heap[w.heap.size + 1]? = some (.cells #[.int .i64 0, .int .i64 0, .int .i64 0, str []] 37 (0, 0)) := by rw [← hW2.out]; exact hp_at _ _ (by simp only [World.size_alloc])
  have hx2 : W2.heap[bx]? = some (.cells #[x0, x1, x2, x3] 37 (0, 0)) := by rw [← hW2.out]; exact (hp_past _ _ (by simp only [World.size_alloc]; omega)).trans ((hp_past _ _ (by omega)).trans Hx.out)
  have he2 : W2.heap[bx + 1]? = some (.cells #[.int .i64 z0] 49 (0, 0)) := by rw [← hW2.out]; exact (hp_past _ _ (by simp only [World.size_alloc]; omega)).trans ((hp_past _ _ (by omega)).trans He.out)
  have hb2 : Below bx w W2 := by rw [← hW2.out]; exact ((Below.refl _ _).alloc (by omega) _).alloc (by simp; omega) _
  go_upto_region 3 with fail
  rw [hW2.out]
  have k0 := cell_of_one h0
  have d0 := cell_n h1 0 (v := .int .i64 0) rfl
  have d1 := cell_n h1 1 (v := .int .i64 0) rfl
  have d2 := cell_n h1 2 (v := .int .i64 0) rfl
  have d3 := cell_n h1 3 (v := str []) rfl
  have g0 := cell_n hx2 0 (v := x0) rfl
  have g1 := cell_n hx2 1 (v := x1) rfl
  have g2 := cell_n hx2 2 (v := x2) rfl
  have g3 := cell_n hx2 3 (v := x3) rfl
  have f0 := free_n hx2 0
  have f1 := free_n hx2 1
  have f2 := free_n hx2 2
  have f3 := free_n hx2 3
  have ce := cell_of_one he2
  have fe := free_of_one he2
  have Hx2 := Lib.hid hx2
  have He2 := Lib.hid he2
  have Hb2 := Lib.hid hb2
  obtain ⟨S, hS⟩ := hide w.heap.size
  rw [hS.out]
  rw [hS.out] at k0 d0 d1 d2 d3
  rw [hS.out] at n1 n2
  have n3 : bx ≠ S := fun e => n1 e.symm
  have n4 : bx + 1 ≠ S := fun e => n2 e.symm
  have n5 : S + 1 ≠ bx := by have := hS.out; omega
  have n6 : bx ≠ S + 1 := by have := hS.out; omega
  clear h0 h1 hx2 he2 hb2 Hx He
  go_region
  go_wp2
  have e1 := setAll_at Hx2.out [.int .i64 0, .int .i64 0, .int .i64 0, str []] rfl
  have e2 := setAll_other (b := bx) He2.out (by omega) [.int .i64 0, .int .i64 0, .int .i64 0, str []]
  have e3 := setAll_below Hb2.out (Nat.le_refl _) [.int .i64 0, .int .i64 0, .int .i64 0, str []]
  refine ⟨rfl, _, rfl, _, results_none rfl _ _ _, rfl, rfl, ?_, ?_, ?_⟩
  · rw [hp_drew]; exact hp_set_other e1 (by simp)
  · rw [hp_drew]; exact one_setCell e2
  · exact (e3.setCell (p := ⟨bx + 1, 0, none⟩) (Nat.le_succ _) _).drew

set_option maxHeartbeats 1000000 in
theorem idle_ent (p q : Addr) (w : World) :
    CallsD Try.prog 57 #[.pointer (some p), .pointer (some q)] .returning w fun e u' w' =>
      e = .returned (.tuple #[]) ∧ u' = .returning ∧ w.alloc (.cells #[.int .i64 0] 76) = w' := by
  refine callsD_of_wpS Try.func57 rfl fun c₀ cs hu => ?_
  refine wpS_seq_recover rfl (by simp [go_sem]) (v := .nilIface) (cs' := c₀ :: cs) ?_ ?_
  · simp [recovered, recoverD, hu]
  simp only [Try.ntmps57, List.size_toArray, List.length_cons, List.length_nil, Nat.reduceAdd, Nat.reduceSub, Array.replicate_succ, Array.replicate_zero, List.push_toArray, List.append_toArray, List.nil_append, List.cons_append]
  have k1 := assert_nil
  go_wp2
  refine ⟨rfl, .returning, ?_, _, results_none rfl _ _ _, rfl, rfl, rfl⟩
  cases c₀
  simp_all

/-- what a reading of all bytes hands back -/
def GotEnt (w : World) (res : Except Int Ent) (e : Ending) (w' : World) : Prop :=
  match res with
  | .ok q => e = .returned (.tuple #[vE q, .int .i64 0]) ∧ Below w.heap.size w w'
  | .error z => e = .returned (.tuple #[.agg #[.int .i64 0, .int .i64 0, .int .i64 0, str []], .int .i64 z]) ∧ Below w.heap.size w w'

set_option maxHeartbeats 2000000 in
theorem read_ent (s : List UInt8) (w : World) (hs : s.length ≤ 9223372036854775807) :
    Calls Try.prog 48 #[str s, .func (.func 49) #[] #[]] w (GotEnt w (full (rdEnt s))) := by
  have hmf : ∀ (fn : Fn) (first cap : Array Value) (w : World), (Instr.makeFunc fn first cap).run Try.prog w = .ok (.func fn first cap) w := fun _ _ _ _ => rfl
  obtain ⟨res, HR⟩ := hide (rdEnt s)
  rw [HR.out]
  go_enter_defers Try.func48, Try.ntmps48
  go_wp2_with fail
  obtain ⟨W3, hW⟩ := hide (((w.alloc (.cells #[.int .i64 0, .int .i64 0, .int .i64 0, str []] 37)).alloc (.cells #[.int .i64 0] 49)).alloc (.cells #[str s] 80))
  rw [hW.out]
  have Hx : Hid (W3.heap[w.heap.size]? = some (.cells #[.int .i64 0, .int .i64 0, .int .i64 0, str []] 37 (0, 0))) := by
    rw [← hW.out]; exact (hp_past _ _ (by simp only [World.size_alloc]; omega)).trans ((hp_past _ _ (by simp only [World.size_alloc]; omega)).trans (hp_at _ _ rfl))
  have He : Hid (W3.heap[w.heap.size + 1]? = some (.cells #[.int .i64 0] 49 (0, 0))) := by
    rw [← hW.out]; exact (hp_past _ _ (by simp only [World.size_alloc]; omega)).trans (hp_at _ _ (by simp only [World.size_alloc]))
  have Hr : Hid (Rd W3 (w.heap.size + 1 + 1) s) := by
    rw [← hW.out]; exact ⟨hp_at _ _ (by simp only [World.size_alloc]), hs⟩
  have Hb : Hid (Below w.heap.size w W3) := by
    rw [← hW.out]
    exact (((Below.refl _ _).alloc (Nat.le_refl _) _).alloc (by simp) _).alloc (by simp; omega) _
  have hsz : W3.heap.size = w.heap.size + 3 := by rw [← hW.out]; simp
  have Hsz := Lib.hid hsz
  refine (entry_rd Hr.out).mono ?_
  rw [HR.out]
  clear hsz
  intro e w1 hp
  cases res with
  | error z =>
    obtain ⟨rfl, hg⟩ := hp
    have hx1 := (hg.block w.heap.size (by rw [Hsz.out]; omega) (by simp; omega)).trans Hx.out
    have he1 := (hg.block (w.heap.size + 1) (by rw [Hsz.out]; omega) (by simp)).trans He.out
    have hb1 : Below w.heap.size w w1 := Hb.out.trans ⟨hg.os, hg.tape, hg.output, hg.size, fun k hk => hg.block k (by rw [Hsz.out]; omega) (by simp; omega)⟩
    have Hx1 := Lib.hid hx1
    have He1 := Lib.hid he1
    have Hb1 := Lib.hid hb1
    clear hg hx1 he1 hb1
    go_wp2_with fail
    refine leaves_cons (f := 57) (args := #[.pointer (some ⟨w.heap.size, 0, none⟩), .pointer (some ⟨w.heap.size + 1, 0, none⟩)]) (by simp) (by simp [go_sem]) ?_
    refine (catch_ent w.heap.size _ _ _ _ 0 z w1 Hx1.out He1.out).mono ?_
    rintro e u' w2 ⟨rfl, rfl, hx2, he2, hb2⟩
    have c0 := cell_n hx2 0 (v := .int .i64 0) rfl
    have c1 := cell_n hx2 1 (v := .int .i64 0) rfl
    have c2 := cell_n hx2 2 (v := .int .i64 0) rfl
    have c3 := cell_n hx2 3 (v := str []) rfl
    have c99 := cell_of_one he2
    have Hb2 := Lib.hid (Hb1.out.trans hb2)
    clear hx2 he2 hb2
    simp [Leaves, settle, results, Try.results48, go_sem, c0, c1, c2, c3, c99, GotEnt, full]
    first | exact Hb2.out | exact ⟨rfl, Hb2.out⟩
  | ok p =>
    obtain ⟨q, t⟩ := p
    obtain ⟨rfl, hr1, hg⟩ := hp
    have hx1 := (hg.block w.heap.size (by rw [Hsz.out]; omega) (by simp; omega)).trans Hx.out
    have he1 := (hg.block (w.heap.size + 1) (by rw [Hsz.out]; omega) (by simp)).trans He.out
    have hb1 : Below w.heap.size w w1 := Hb.out.trans ⟨hg.os, hg.tape, hg.output, hg.size, fun k hk => hg.block k (by rw [Hsz.out]; omega) (by simp; omega)⟩
    have hx2 := setAll_at hx1 [.int .i64 q.index, .int .i64 q.term, .int .i64 q.kind, str q.data] rfl
    have he2 := setAll_other (b := w.heap.size) he1 (by omega) [.int .i64 q.index, .int .i64 q.term, .int .i64 q.kind, str q.data]
    have hb2 := setAll_below hb1 (Nat.le_refl _) [.int .i64 q.index, .int .i64 q.term, .int .i64 q.kind, str q.data]
    have hr2 := setAll_other (b := w.heap.size) hr1.1 (by omega) [.int .i64 q.index, .int .i64 q.term, .int .i64 q.kind, str q.data]
    have c0 := cell_n hx1 0 (v := .int .i64 0) rfl
    have c1 := cell_n hx1 1 (v := .int .i64 0) rfl
    have c2 := cell_n hx1 2 (v := .int .i64 0) rfl
    have c3 := cell_n hx1 3 (v := str []) rfl
    have f0 := free_n hx1 0
    have f1 := free_n hx1 1
    have f2 := free_n hx1 2
    have f3 := free_n hx1 3
    have Hx2 := Lib.hid hx2
    have He2 := Lib.hid he2
    have Hb2 := Lib.hid hb2
    have Hr2 := Lib.hid hr2
    clear hg hx1 he1 hb1 hx2 he2 hb2 hr1 hr2
    go_upto_region 4 with fail
    change Code.wp _ _ _ _ (setAll w1 w.heap.size [.int .i64 q.index, .int .i64 q.term, .int .i64 q.kind, str q.data])
    obtain ⟨W5, hW5⟩ := hide (setAll w1 w.heap.size [.int .i64 q.index, .int .i64 q.term, .int .i64 q.kind, str q.data])
    rw [hW5.out] at Hx2 He2 Hb2 Hr2 ⊢
    have cr := cell_of_one Hr2.out
    have ce := cell_of_one He2.out
    have fe := free_of_one He2.out
    clear c0 c1 c2 c3 f0 f1 f2 f3
    have c0 := cell_n Hx2.out 0 (v := .int .i64 q.index) rfl
    have c1 := cell_n Hx2.out 1 (v := .int .i64 q.term) rfl
    have c2 := cell_n Hx2.out 2 (v := .int .i64 q.kind) rfl
    have c3 := cell_n Hx2.out 3 (v := str q.data) rfl
    have f0 := free_n Hx2.out 0
    have f1 := free_n Hx2.out 1
    have f2 := free_n Hx2.out 2
    have f3 := free_n Hx2.out 3
    cases t with
    | cons y t =>
      go_wp2_with (go_at_call 30; refine (fail_any _ _).mono ?_; rintro e w' ⟨rfl, rfl⟩)
      refine leaves_cons (f := 57) (args := #[.pointer (some ⟨w.heap.size, 0, none⟩), .pointer (some ⟨w.heap.size + 1, 0, none⟩)]) (by simp) (by simp [go_sem]) ?_
      refine (catch_ent w.heap.size _ _ _ _ 0 1 _ Hx2.out He2.out).mono ?_
      rintro e u' w2 ⟨rfl, rfl, hx3, he3, hb3⟩
      clear c0 c1 c2 c3
      have c0 := cell_n hx3 0 (v := .int .i64 0) rfl
      have c1 := cell_n hx3 1 (v := .int .i64 0) rfl
      have c2 := cell_n hx3 2 (v := .int .i64 0) rfl
      have c3 := cell_n hx3 3 (v := str []) rfl
      have c99 := cell_of_one he3
      have Hb3 := Lib.hid (Hb2.out.trans hb3)
      clear hx3 he3 hb3
      simp [Leaves, settle, results, Try.results48, go_sem, c0, c1, c2, c3, c99, GotEnt, full]
      first | exact Hb3.out | exact ⟨rfl, Hb3.out⟩
    | nil =>
      go_wp2_with fail
      have hx3 := hp_set_other (a := ⟨w.heap.size + 1, 0, none⟩) (v := .int .i64 0) (setAll_at Hx2.out [.int .i64 q.index, .int .i64 q.term, .int .i64 q.kind, str q.data] rfl) (by simp)
      have he3 := one_setCell (u := .int .i64 0) (setAll_other (b := w.heap.size) He2.out (by omega) [.int .i64 q.index, .int .i64 q.term, .int .i64 q.kind, str q.data])
      have hb3 := (setAll_below Hb2.out (Nat.le_refl _) [.int .i64 q.index, .int .i64 q.term, .int .i64 q.kind, str q.data]).setCell (p := ⟨w.heap.size + 1, 0, none⟩) (Nat.le_succ _) (.int .i64 0)
      obtain ⟨W6, hW6⟩ := hide ((setAll W5 w.heap.size [.int .i64 q.index, .int .i64 q.term, .int .i64 q.kind, str q.data]).setCell ⟨w.heap.size + 1, 0, none⟩ (.int .i64 0))
      rw [hW6.out] at hx3 he3 hb3
      refine leaves_cons (f := 57) (args := #[.pointer (some ⟨w.heap.size, 0, none⟩), .pointer (some ⟨w.heap.size + 1, 0, none⟩)]) (by simp) (by simp [go_sem]) ?_
      refine (idle_ent _ _ _).mono ?_
      rintro e u' w2 ⟨rfl, rfl, hw2⟩
      have hw3 : W6.alloc (.cells #[.int .i64 0] 76) = w2 := by rw [← hW6.out]; exact hw2
      clear c0 c1 c2 c3 hw2
      subst hw3
      have hx4 := (hp_past W6 (.cells #[.int .i64 0] 76) (fun e => by have := lt_of_block hx3; omega)).trans hx3
      have c0 := cell_n hx4 0 (v := .int .i64 q.index) rfl
      have c1 := cell_n hx4 1 (v := .int .i64 q.term) rfl
      have c2 := cell_n hx4 2 (v := .int .i64 q.kind) rfl
      have c3 := cell_n hx4 3 (v := str q.data) rfl
      have c99 := cell_of_one ((hp_past W6 (.cells #[.int .i64 0] 76) (fun e => by have := lt_of_block he3; omega)).trans he3)
      refine ⟨_, by simp [results, Try.results48, go_sem, c0, c1, c2, c3, c99]; rfl, ?_⟩
      exact ⟨rfl, hb3.alloc hb3.size _⟩

set_option maxHeartbeats 1000000 in
theorem wire_getEntry (s : List UInt8) (w : World) (hs : s.length ≤ 9223372036854775807) :
    Calls Try.prog 32 #[str s] w (GotEnt w (full (rdEnt s))) := by
  obtain ⟨res, HR⟩ := hide (full (rdEnt s))
  rw [HR.out]
  obtain ⟨W1, hW⟩ := hide (w.alloc (.cells #[.int .i64 0, .int .i64 0, .int .i64 0, str []] 37))
  have hx : W1.heap[w.heap.size]? = some (.cells #[.int .i64 0, .int .i64 0, .int .i64 0, str []] 37 (0, 0)) := by rw [← hW.out]; exact hp_at _ _ rfl
  have hb : Below w.heap.size w W1 := by rw [← hW.out]; exact (Below.refl _ _).alloc (Nat.le_refl _) _
  have Hx := Lib.hid hx
  have Hb := Lib.hid hb
  have Hws : Hid (w.heap.size < W1.heap.size) := lt_of_block hx
  clear hx hb
  have HQ := Lib.hid (read_ent s W1 hs)
  rw [HR.out] at HQ
  go_enter Try.func32, Try.ntmps32
  go_wp2_with fail
  rw [hW.out]
  refine HQ.out.mono ?_
  intro e w1 hp
  cases res with
  | error z =>
    obtain ⟨rfl, hb1⟩ := hp
    have h1 := (hb1.block w.heap.size (lt_of_block Hx.out)).trans Hx.out
    have h2 := setAll_at h1 [.int .i64 0, .int .i64 0, .int .i64 0, str []] rfl
    have hb2 := setAll_below (Hb.out.trans (hb1.mono Hb.out.size)) (Nat.le_refl _) [.int .i64 0, .int .i64 0, .int .i64 0, str []]
    have c0 := cell_n h1 0 (v := .int .i64 0) rfl
    have c1 := cell_n h1 1 (v := .int .i64 0) rfl
    have c2 := cell_n h1 2 (v := .int .i64 0) rfl
    have c3 := cell_n h1 3 (v := str []) rfl
    have f0 := free_n h1 0
    have f1 := free_n h1 1
    have f2 := free_n h1 2
    have f3 := free_n h1 3
    have H2 := Lib.hid h2
    have Hb2 := Lib.hid hb2
    clear h1 h2 hb2 hb1
    go_wp2_with fail
    change bodyPost _ _ _ Exit.ret _ (setAll w1 w.heap.size [.int .i64 0, .int .i64 0, .int .i64 0, str []])
    generalize setAll w1 w.heap.size [.int .i64 0, .int .i64 0, .int .i64 0, str []] = W2 at H2 Hb2 ⊢
    clear c0 c1 c2 c3
    have c0 := cell_n H2.out 0 (v := .int .i64 0) rfl
    have c1 := cell_n H2.out 1 (v := .int .i64 0) rfl
    have c2 := cell_n H2.out 2 (v := .int .i64 0) rfl
    have c3 := cell_n H2.out 3 (v := str []) rfl
    refine bodyPost_ret (by simp [results, Try.results32, go_sem, c0, c1, c2, c3]; rfl) rfl ?_
    exact ⟨rfl, Hb2.out⟩
  | ok q =>
    obtain ⟨rfl, hb1⟩ := hp
    have h1 := (hb1.block w.heap.size (lt_of_block Hx.out)).trans Hx.out
    have h2 := setAll_at h1 [.int .i64 q.index, .int .i64 q.term, .int .i64 q.kind, str q.data] rfl
    have hb2 := setAll_below (Hb.out.trans (hb1.mono Hb.out.size)) (Nat.le_refl _) [.int .i64 q.index, .int .i64 q.term, .int .i64 q.kind, str q.data]
    have c0 := cell_n h1 0 (v := .int .i64 0) rfl
    have c1 := cell_n h1 1 (v := .int .i64 0) rfl
    have c2 := cell_n h1 2 (v := .int .i64 0) rfl
    have c3 := cell_n h1 3 (v := str []) rfl
    have f0 := free_n h1 0
    have f1 := free_n h1 1
    have f2 := free_n h1 2
    have f3 := free_n h1 3
    have H2 := Lib.hid h2
    have Hb2 := Lib.hid hb2
    clear h1 h2 hb2 hb1
    go_wp2_with fail
    change bodyPost _ _ _ Exit.ret _ (setAll w1 w.heap.size [.int .i64 q.index, .int .i64 q.term, .int .i64 q.kind, str q.data])
    generalize setAll w1 w.heap.size [.int .i64 q.index, .int .i64 q.term, .int .i64 q.kind, str q.data] = W2 at H2 Hb2 ⊢
    clear c0 c1 c2 c3
    have c0 := cell_n H2.out 0 (v := .int .i64 q.index) rfl
    have c1 := cell_n H2.out 1 (v := .int .i64 q.term) rfl
    have c2 := cell_n H2.out 2 (v := .int .i64 q.kind) rfl
    have c3 := cell_n H2.out 3 (v := str q.data) rfl
    refine bodyPost_ret (by simp [results, Try.results32, go_sem, c0, c1, c2, c3]; rfl) rfl ?_
    exact ⟨rfl, Hb2.out⟩
end Go.Proofs.Ytjlhlmnoomiblaa
