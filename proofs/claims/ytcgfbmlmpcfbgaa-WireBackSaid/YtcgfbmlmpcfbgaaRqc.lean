/-
  Reading requests: the deferred catch.
-/
import Derived.Test.YtcgfbmlmpcfbgaaRqh
import Derived.Test.YtcgfbmlmpcfbgaaRc
namespace Go.Proofs.Ytcgfbmlmpcfbgaa
open Go.RowKit Wm Mm
set_option linter.unusedVariables false

theorem set7_below {w w1 : World} {B b : Nat} (h : Below B w w1) (hb : B ≤ b) (y0 y1 y2 y3 y4 y5 y6 : Value) : Below B w (set7 w1 b y0 y1 y2 y3 y4 y5 y6) := by
  unfold set7
  iterate 7 refine Below.setCell ?_ (by simpa using hb) _
  exact h

set_option maxHeartbeats 2000000 in
theorem catch_req (bx : Nat) (x0 x1 x2 x3 x4 x5 x6 : Value) (z0 z : Int) (w : World) (hx : w.heap[bx]? = some (.cells #[x0, x1, x2, x3, x4, x5, x6] 27 (0, 0))) (he : w.heap[bx + 1]? = some (.cells #[.int .i64 z0] 28 (0, 0))) :
    CallsD Try.prog 50 #[.pointer (some ⟨bx, 0, none⟩), .pointer (some ⟨bx + 1, 0, none⟩)] (.panicking [{ v := .iface 98 (.agg #[.int .i64 z]), recovered := false }]) w fun e u' w' =>
      e = .returned (.tuple #[]) ∧ u' = .panicking [{ v := .iface 98 (.agg #[.int .i64 z]), recovered := true }] ∧
      w'.heap[bx]? = some (.cells zero7 27 (0, 0)) ∧ w'.heap[bx + 1]? = some (.cells #[.int .i64 z] 28 (0, 0)) ∧ Below bx w w' := by
  refine callsD_of_wpS Try.func50 rfl fun c₀ cs hu => ?_
  refine wpS_seq_recover rfl (by simp [go_sem]) (v := .iface 98 (.agg #[.int .i64 z])) (cs' := { c₀ with mode := .panicking [{ v := .iface 98 (.agg #[.int .i64 z]), recovered := true }] } :: cs) ?_ ?_
  · simp [recovered, recoverD, hu]
  simp only [Try.ntmps50, List.size_toArray, List.length_cons, List.length_nil, Nat.reduceAdd, Nat.reduceSub, Array.replicate_succ, Array.replicate_zero, List.push_toArray, List.append_toArray, List.nil_append, List.cons_append]
  have l1 := lt_of_block hx
  have l2 := lt_of_block he
  have n1 : w.heap.size ≠ bx := by omega
  have n2 : w.heap.size ≠ bx + 1 := by omega
  have Hx := Lib.hid hx
  have He := Lib.hid he
  clear hx he
  have k1 := assert_stop
  obtain ⟨W2, hW2⟩ := hide ((w.alloc (.cells #[.int .i64 z] 98)).alloc (.cells zero7 27))
  have h0 : W2.heap[w.heap.size]? = some (.cells #[.int .i64 z] 98 (0, 0)) := by rw [← hW2.out]; exact (hp_past _ _ (by simp only [World.size_alloc]; omega)).trans (hp_at _ _ rfl)
  have h1 : W2.heap[w.heap.size + 1]? = some (.cells zero7 27 (0, 0)) := by rw [← hW2.out]; exact hp_at _ _ (by simp only [World.size_alloc])
  have hx2 : W2.heap[bx]? = some (.cells #[x0, x1, x2, x3, x4, x5, x6] 27 (0, 0)) := by rw [← hW2.out]; exact (hp_past _ _ (by simp only [World.size_alloc]; omega)).trans ((hp_past _ _ (by omega)).trans Hx.out)
  have he2 : W2.heap[bx + 1]? = some (.cells #[.int .i64 z0] 28 (0, 0)) := by rw [← hW2.out]; exact (hp_past _ _ (by simp only [World.size_alloc]; omega)).trans ((hp_past _ _ (by omega)).trans He.out)
  have hb2 : Below bx w W2 := by rw [← hW2.out]; exact ((Below.refl _ _).alloc (by omega) _).alloc (by simp; omega) _
  go_upto_region 3 with fail
  rw [hW2.out]
  have c0 := cell_of_one h0
  obtain ⟨d0, d1, d2, d3, d4, d5, d6⟩ := seven_cells h1
  obtain ⟨g0, g1, g2, g3, g4, g5, g6⟩ := seven_cells hx2
  have f0 := seven_free (i := 0) hx2
  have f1 := seven_free (i := 1) hx2
  have f2 := seven_free (i := 2) hx2
  have f3 := seven_free (i := 3) hx2
  have f4 := seven_free (i := 4) hx2
  have f5 := seven_free (i := 5) hx2
  have f6 := seven_free (i := 6) hx2
  have ce := cell_of_one he2
  have fe := free_of_one he2
  have Hx2 := Lib.hid hx2
  have He2 := Lib.hid he2
  have Hb2 := Lib.hid hb2
  obtain ⟨S, hS⟩ := hide w.heap.size
  rw [hS.out]
  rw [hS.out] at c0 d0 d1 d2 d3 d4 d5 d6
  rw [hS.out] at n1 n2
  have n3 : bx ≠ S := fun e => n1 e.symm
  have n4 : bx + 1 ≠ S := fun e => n2 e.symm
  have n5 : S + 1 ≠ bx := by have := hS.out; omega
  have n6 : bx ≠ S + 1 := by have := hS.out; omega
  clear h0 h1 hx2 he2 hb2 Hx He
  go_region
  go_wp2
  have e1 := set7_at Hx2.out (.int .i64 0) (.int .i64 0) (.int .i64 0) (str []) (str []) (.int .i64 0) (.int .i64 0)
  have e2 := set7_other (b := bx) He2.out (by omega) (.int .i64 0) (.int .i64 0) (.int .i64 0) (str []) (str []) (.int .i64 0) (.int .i64 0)
  have e3 := set7_below Hb2.out (Nat.le_refl _) (.int .i64 0) (.int .i64 0) (.int .i64 0) (str []) (str []) (.int .i64 0) (.int .i64 0)
  refine ⟨rfl, _, rfl, _, results_none rfl _ _ _, rfl, rfl, ?_, ?_, ?_⟩
  · rw [hp_drew]; exact hp_set_other e1 (by simp)
  · rw [hp_drew]; exact one_setCell e2
  · exact (e3.setCell (p := ⟨bx + 1, 0, none⟩) (Nat.le_succ _) _).drew

set_option maxHeartbeats 1000000 in
theorem idle_req (p q : Addr) (w : World) :
    CallsD Try.prog 50 #[.pointer (some p), .pointer (some q)] .returning w fun e u' w' =>
      e = .returned (.tuple #[]) ∧ u' = .returning ∧ w.alloc (.cells #[.int .i64 0] 98) = w' := by
  refine callsD_of_wpS Try.func50 rfl fun c₀ cs hu => ?_
  refine wpS_seq_recover rfl (by simp [go_sem]) (v := .nilIface) (cs' := c₀ :: cs) ?_ ?_
  · simp [recovered, recoverD, hu]
  simp only [Try.ntmps50, List.size_toArray, List.length_cons, List.length_nil, Nat.reduceAdd, Nat.reduceSub, Array.replicate_succ, Array.replicate_zero, List.push_toArray, List.append_toArray, List.nil_append, List.cons_append]
  have k1 := assert_nil
  go_wp2
  refine ⟨rfl, .returning, ?_, _, results_none rfl _ _ _, rfl, rfl, rfl⟩
  cases c₀
  simp_all

def zReq : Value := vReq 0 0 0 [] [] 0 0
/-- what a reading of all bytes hands back -/
def GotReq (w : World) (res : Except Int Req) (e : Ending) (w' : World) : Prop :=
  match res with
  | .ok q => e = .returned (.tuple #[vR q, .int .i64 0]) ∧ Below w.heap.size w w'
  | .error z => e = .returned (.tuple #[zReq, .int .i64 z]) ∧ Below w.heap.size w w'

set_option maxHeartbeats 2000000 in
theorem read_req (s : List UInt8) (w : World) (hs : s.length ≤ 9223372036854775807) :
    Calls Try.prog 21 #[str s, .func (.func 22) #[] #[]] w (GotReq w (full (rdReq s))) := by
  have hmf : ∀ (fn : Fn) (first cap : Array Value) (w : World), (Instr.makeFunc fn first cap).run Try.prog w = .ok (.func fn first cap) w := fun _ _ _ _ => rfl
  obtain ⟨res, HR⟩ := hide (rdReq s)
  rw [HR.out]
  go_enter_defers Try.func21, Try.ntmps21
  go_wp2_with fail
  obtain ⟨W3, hW⟩ := hide (((w.alloc (.cells zero7 27)).alloc (.cells #[.int .i64 0] 28)).alloc (.cells #[str s] 101))
  rw [hW.out]
  have Hx : Hid (W3.heap[w.heap.size]? = some (.cells zero7 27 (0, 0))) := by
    rw [← hW.out]; exact (hp_past _ _ (by simp only [World.size_alloc]; omega)).trans ((hp_past _ _ (by simp only [World.size_alloc]; omega)).trans (hp_at _ _ rfl))
  have He : Hid (W3.heap[w.heap.size + 1]? = some (.cells #[.int .i64 0] 28 (0, 0))) := by
    rw [← hW.out]; exact (hp_past _ _ (by simp only [World.size_alloc]; omega)).trans (hp_at _ _ (by simp only [World.size_alloc]))
  have Hr : Hid (Rd W3 (w.heap.size + 1 + 1) s) := by
    rw [← hW.out]; exact ⟨hp_at _ _ (by simp only [World.size_alloc]), hs⟩
  have Hb : Hid (Below w.heap.size w W3) := by
    rw [← hW.out]
    exact (((Below.refl _ _).alloc (Nat.le_refl _) _).alloc (by simp) _).alloc (by simp; omega) _
  have hsz : W3.heap.size = w.heap.size + 3 := by rw [← hW.out]; simp
  have Hsz := Lib.hid hsz
  refine (getRequest_f Hr.out).mono ?_
  rw [HR.out]
  clear hsz
  intro e w1 hp
  cases res with
  | error z =>
    obtain ⟨rfl, hg⟩ := hp
    have hx1 := (hg.block w.heap.size (by rw [Hsz.out]; omega) (by simp; omega)).trans Hx.out
    have he1 := (hg.block (w.heap.size + 1) (by rw [Hsz.out]; omega) (by simp)).trans He.out
    have hb1 : Below w.heap.size w w1 := Hb.out.trans ⟨hg.os, hg.tape, hg.output, hg.size, fun k hk => hg.block k (by rw [Hsz.out]; omega) (by simp; omega)⟩
    have Hx1 := Lib.hid hx1
    have He1 := Lib.hid he1
    have Hb1 := Lib.hid hb1
    clear hg hx1 he1 hb1
    go_wp2_with fail
    refine leaves_cons (f := 50) (args := #[.pointer (some ⟨w.heap.size, 0, none⟩), .pointer (some ⟨w.heap.size + 1, 0, none⟩)]) (by simp) (by simp [go_sem]) ?_
    refine (catch_req w.heap.size _ _ _ _ _ _ _ 0 z w1 Hx1.out He1.out).mono ?_
    rintro e u' w2 ⟨rfl, rfl, hx2, he2, hb2⟩
    obtain ⟨c0, c1, c2, c3, c4, c5, c6⟩ := seven_cells hx2
    have c7 := cell_of_one he2
    have Hb2 := Lib.hid (Hb1.out.trans hb2)
    clear hx2 he2 hb2
    simp [Leaves, settle, results, Try.results21, go_sem, c0, c1, c2, c3, c4, c5, c6, c7, GotReq, full]
    exact ⟨rfl, Hb2.out⟩
  | ok p =>
    obtain ⟨q, t⟩ := p
    obtain ⟨rfl, hr1, hg⟩ := hp
    have hx1 := (hg.block w.heap.size (by rw [Hsz.out]; omega) (by simp; omega)).trans Hx.out
    have he1 := (hg.block (w.heap.size + 1) (by rw [Hsz.out]; omega) (by simp)).trans He.out
    have hb1 : Below w.heap.size w w1 := Hb.out.trans ⟨hg.os, hg.tape, hg.output, hg.size, fun k hk => hg.block k (by rw [Hsz.out]; omega) (by simp; omega)⟩
    have hx2 := set7_at hx1 (.int .i64 q.client) (.int .i64 q.number) (.int .i64 q.cmd.kind) (str q.cmd.key) (str q.cmd.val) (.int .i64 q.cmd.iff) (.int .i64 q.time)
    have he2 := set7_other (b := w.heap.size) he1 (by omega) (.int .i64 q.client) (.int .i64 q.number) (.int .i64 q.cmd.kind) (str q.cmd.key) (str q.cmd.val) (.int .i64 q.cmd.iff) (.int .i64 q.time)
    have hb2 := set7_below hb1 (Nat.le_refl _) (.int .i64 q.client) (.int .i64 q.number) (.int .i64 q.cmd.kind) (str q.cmd.key) (str q.cmd.val) (.int .i64 q.cmd.iff) (.int .i64 q.time)
    have hr2 := set7_other (b := w.heap.size) hr1.1 (by omega) (.int .i64 q.client) (.int .i64 q.number) (.int .i64 q.cmd.kind) (str q.cmd.key) (str q.cmd.val) (.int .i64 q.cmd.iff) (.int .i64 q.time)
    obtain ⟨c0, c1, c2, c3, c4, c5, c6⟩ := seven_cells hx1
    have f0 := seven_free (i := 0) hx1
    have f1 := seven_free (i := 1) hx1
    have f2 := seven_free (i := 2) hx1
    have f3 := seven_free (i := 3) hx1
    have f4 := seven_free (i := 4) hx1
    have f5 := seven_free (i := 5) hx1
    have f6 := seven_free (i := 6) hx1
    have Hx2 := Lib.hid hx2
    have He2 := Lib.hid he2
    have Hb2 := Lib.hid hb2
    have Hr2 := Lib.hid hr2
    clear hg hx1 he1 hb1 hx2 he2 hb2 hr1 hr2
    go_upto_region 4 with fail
    change Code.wp _ _ _ _ (set7 w1 w.heap.size (.int .i64 q.client) (.int .i64 q.number) (.int .i64 q.cmd.kind) (str q.cmd.key) (str q.cmd.val) (.int .i64 q.cmd.iff) (.int .i64 q.time))
    obtain ⟨W5, hW5⟩ := hide (set7 w1 w.heap.size (.int .i64 q.client) (.int .i64 q.number) (.int .i64 q.cmd.kind) (str q.cmd.key) (str q.cmd.val) (.int .i64 q.cmd.iff) (.int .i64 q.time))
    rw [hW5.out] at Hx2 He2 Hb2 Hr2 ⊢
    have cr := cell_of_one Hr2.out
    have ce := cell_of_one He2.out
    have fe := free_of_one He2.out
    clear c0 c1 c2 c3 c4 c5 c6 f0 f1 f2 f3 f4 f5 f6
    obtain ⟨c0, c1, c2, c3, c4, c5, c6⟩ := seven_cells Hx2.out
    have f0 := seven_free (i := 0) Hx2.out
    have f1 := seven_free (i := 1) Hx2.out
    have f2 := seven_free (i := 2) Hx2.out
    have f3 := seven_free (i := 3) Hx2.out
    have f4 := seven_free (i := 4) Hx2.out
    have f5 := seven_free (i := 5) Hx2.out
    have f6 := seven_free (i := 6) Hx2.out
    cases t with
    | cons y t =>
      go_wp2_with (go_at_call 25; refine (fail_any _ _).mono ?_; rintro e w' ⟨rfl, rfl⟩)
      refine leaves_cons (f := 50) (args := #[.pointer (some ⟨w.heap.size, 0, none⟩), .pointer (some ⟨w.heap.size + 1, 0, none⟩)]) (by simp) (by simp [go_sem]) ?_
      refine (catch_req w.heap.size _ _ _ _ _ _ _ 0 1 _ Hx2.out He2.out).mono ?_
      rintro e u' w2 ⟨rfl, rfl, hx3, he3, hb3⟩
      clear c0 c1 c2 c3 c4 c5 c6
      obtain ⟨c0, c1, c2, c3, c4, c5, c6⟩ := seven_cells hx3
      have c7 := cell_of_one he3
      have Hb3 := Lib.hid (Hb2.out.trans hb3)
      clear hx3 he3 hb3
      simp [Leaves, settle, results, Try.results21, go_sem, c0, c1, c2, c3, c4, c5, c6, c7, GotReq, full]
      exact ⟨rfl, Hb3.out⟩
    | nil =>
      go_wp2_with fail
      have hx3 := hp_set_other (a := ⟨w.heap.size + 1, 0, none⟩) (v := .int .i64 0) (set7_at Hx2.out (.int .i64 q.client) (.int .i64 q.number) (.int .i64 q.cmd.kind) (str q.cmd.key) (str q.cmd.val) (.int .i64 q.cmd.iff) (.int .i64 q.time)) (by simp)
      have he3 := one_setCell (u := .int .i64 0) (set7_other (b := w.heap.size) He2.out (by omega) (.int .i64 q.client) (.int .i64 q.number) (.int .i64 q.cmd.kind) (str q.cmd.key) (str q.cmd.val) (.int .i64 q.cmd.iff) (.int .i64 q.time))
      have hb3 := (set7_below Hb2.out (Nat.le_refl _) (.int .i64 q.client) (.int .i64 q.number) (.int .i64 q.cmd.kind) (str q.cmd.key) (str q.cmd.val) (.int .i64 q.cmd.iff) (.int .i64 q.time)).setCell (p := ⟨w.heap.size + 1, 0, none⟩) (Nat.le_succ _) (.int .i64 0)
      obtain ⟨W6, hW6⟩ := hide ((set7 W5 w.heap.size (.int .i64 q.client) (.int .i64 q.number) (.int .i64 q.cmd.kind) (str q.cmd.key) (str q.cmd.val) (.int .i64 q.cmd.iff) (.int .i64 q.time)).setCell ⟨w.heap.size + 1, 0, none⟩ (.int .i64 0))
      rw [hW6.out] at hx3 he3 hb3
      refine leaves_cons (f := 50) (args := #[.pointer (some ⟨w.heap.size, 0, none⟩), .pointer (some ⟨w.heap.size + 1, 0, none⟩)]) (by simp) (by simp [go_sem]) ?_
      refine (idle_req _ _ _).mono ?_
      rintro e u' w2 ⟨rfl, rfl, hw2⟩
      have hw3 : W6.alloc (.cells #[.int .i64 0] 98) = w2 := by rw [← hW6.out]; exact hw2
      clear c0 c1 c2 c3 c4 c5 c6 hw2
      subst hw3
      obtain ⟨c0, c1, c2, c3, c4, c5, c6⟩ := seven_cells ((hp_past W6 (.cells #[.int .i64 0] 98) (fun e => by have := lt_of_block hx3; omega)).trans hx3)
      have c7 := cell_of_one ((hp_past W6 (.cells #[.int .i64 0] 98) (fun e => by have := lt_of_block he3; omega)).trans he3)
      refine ⟨_, by simp [results, Try.results21, go_sem, c0, c1, c2, c3, c4, c5, c6, c7]; rfl, ?_⟩
      exact ⟨rfl, hb3.alloc hb3.size _⟩

set_option maxHeartbeats 1000000 in
theorem wire_getRequest (s : List UInt8) (w : World) (hs : s.length ≤ 9223372036854775807) :
    Calls Try.prog 6 #[str s] w (GotReq w (full (rdReq s))) := by
  obtain ⟨res, HR⟩ := hide (full (rdReq s))
  rw [HR.out]
  obtain ⟨W1, hW⟩ := hide ((w.alloc (.cells zero7 27)))
  have hx : W1.heap[w.heap.size]? = some (.cells zero7 27 (0, 0)) := by rw [← hW.out]; exact hp_at _ _ rfl
  have hb : Below w.heap.size w W1 := by rw [← hW.out]; exact (Below.refl _ _).alloc (Nat.le_refl _) _
  have Hx := Lib.hid hx
  have Hb := Lib.hid hb
  clear hx hb
  have HQ := Lib.hid (read_req s W1 hs)
  rw [HR.out] at HQ
  go_enter Try.func6, Try.ntmps6
  go_wp2_with fail
  rw [hW.out]
  refine HQ.out.mono ?_
  have key : ∀ (w1 : World) (q : Req) (z : Int), Below W1.heap.size W1 w1 → ∃ W2, set7 w1 w.heap.size (.int .i64 q.client) (.int .i64 q.number) (.int .i64 q.cmd.kind) (str q.cmd.key) (str q.cmd.val) (.int .i64 q.cmd.iff) (.int .i64 q.time) = W2 ∧ W2.heap[w.heap.size]? = some (.cells #[.int .i64 q.client, .int .i64 q.number, .int .i64 q.cmd.kind, str q.cmd.key, str q.cmd.val, .int .i64 q.cmd.iff, .int .i64 q.time] 27 (0, 0)) ∧ Below w.heap.size w W2 ∧ w1.heap[w.heap.size]? = some (.cells zero7 27 (0, 0)) := fun w1 q z h => by
    have h1 := (h.block w.heap.size (lt_of_block Hx.out)).trans Hx.out
    exact ⟨_, rfl, set7_at h1 (.int .i64 q.client) (.int .i64 q.number) (.int .i64 q.cmd.kind) (str q.cmd.key) (str q.cmd.val) (.int .i64 q.cmd.iff) (.int .i64 q.time), set7_below (Hb.out.trans (h.mono Hb.out.size)) (Nat.le_refl _) (.int .i64 q.client) (.int .i64 q.number) (.int .i64 q.cmd.kind) (str q.cmd.key) (str q.cmd.val) (.int .i64 q.cmd.iff) (.int .i64 q.time), h1⟩
  have Hkey := Lib.hid key
  clear key
  intro e w1 hp
  cases res with
  | error z =>
    obtain ⟨rfl, hb1⟩ := hp
    obtain ⟨W2, hW2, h2, hb2, h1⟩ := Hkey.out w1 ⟨0, 0, ⟨0, [], [], 0⟩, 0⟩ z hb1
    obtain ⟨c0, c1, c2, c3, c4, c5, c6⟩ := seven_cells h1
    have f0 := seven_free (i := 0) h1
    have f1 := seven_free (i := 1) h1
    have f2 := seven_free (i := 2) h1
    have f3 := seven_free (i := 3) h1
    have f4 := seven_free (i := 4) h1
    have f5 := seven_free (i := 5) h1
    have f6 := seven_free (i := 6) h1
    have H2 := Lib.hid h2
    have Hb2 := Lib.hid hb2
    have HW2 := Lib.hid hW2
    clear h1 h2 hb2 hb1 hW2
    unfold zReq
    go_wp2_with fail
    change bodyPost _ _ _ Exit.ret _ (set7 w1 w.heap.size (.int .i64 (0 : Nat)) (.int .i64 (0 : Nat)) (.int .i64 (0 : Nat)) (str []) (str []) (.int .i64 (0 : Nat)) (.int .i64 (0 : Nat)))
    have hq : set7 w1 w.heap.size (.int .i64 (0 : Nat)) (.int .i64 (0 : Nat)) (.int .i64 (0 : Nat)) (str []) (str []) (.int .i64 (0 : Nat)) (.int .i64 (0 : Nat)) = W2 := HW2.out
    rw [hq]
    clear c0 c1 c2 c3 c4 c5 c6
    obtain ⟨c0, c1, c2, c3, c4, c5, c6⟩ := seven_cells H2.out
    refine bodyPost_ret (by simp [results, Try.results6, go_sem, c0, c1, c2, c3, c4, c5, c6]; rfl) rfl ?_
    exact ⟨rfl, Hb2.out⟩
  | ok q =>
    obtain ⟨rfl, hb1⟩ := hp
    obtain ⟨W2, hW2, h2, hb2, h1⟩ := Hkey.out w1 q 0 hb1
    obtain ⟨c0, c1, c2, c3, c4, c5, c6⟩ := seven_cells h1
    have f0 := seven_free (i := 0) h1
    have f1 := seven_free (i := 1) h1
    have f2 := seven_free (i := 2) h1
    have f3 := seven_free (i := 3) h1
    have f4 := seven_free (i := 4) h1
    have f5 := seven_free (i := 5) h1
    have f6 := seven_free (i := 6) h1
    have H2 := Lib.hid h2
    have Hb2 := Lib.hid hb2
    have HW2 := Lib.hid hW2
    clear h1 h2 hb2 hb1 hW2
    go_wp2_with fail
    change bodyPost _ _ _ Exit.ret _ (set7 w1 w.heap.size (.int .i64 q.client) (.int .i64 q.number) (.int .i64 q.cmd.kind) (str q.cmd.key) (str q.cmd.val) (.int .i64 q.cmd.iff) (.int .i64 q.time))
    have hq : set7 w1 w.heap.size (.int .i64 q.client) (.int .i64 q.number) (.int .i64 q.cmd.kind) (str q.cmd.key) (str q.cmd.val) (.int .i64 q.cmd.iff) (.int .i64 q.time) = W2 := HW2.out
    rw [hq]
    clear c0 c1 c2 c3 c4 c5 c6
    obtain ⟨c0, c1, c2, c3, c4, c5, c6⟩ := seven_cells H2.out
    refine bodyPost_ret (by simp [results, Try.results6, go_sem, c0, c1, c2, c3, c4, c5, c6]; rfl) rfl ?_
    exact ⟨rfl, Hb2.out⟩
end Go.Proofs.Ytcgfbmlmpcfbgaa
