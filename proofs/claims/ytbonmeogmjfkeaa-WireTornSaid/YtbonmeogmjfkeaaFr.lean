/-
  Frames, written and read, both ways.
-/
import Derived.Test.YtbonmeogmjfkeaaSm
import Derived.Test.YtbonmeogmjfkeaaWp
import Derived.Test.YtbonmeogmjfkeaaRw
import Derived.Test.YtbonmeogmjfkeaaRr
import Derived.Test.YtbonmeogmjfkeaaRc
namespace Go.Proofs.Ytbonmeogmjfkeaa
open Go.RowKit Wm Mm
set_option linter.unusedVariables false
set_option linter.unusedSimpArgs false

theorem toStr4 (x y z u : Int) (w : World) : (convert 80 9 (.slice (some ⟨w.heap.size, 0, none⟩) 4 4)).run Try.prog (w.alloc (.cells #[.int .u8 x, .int .u8 y, .int .u8 z, .int .u8 u] 5)) =
    .ok (str [UInt8.ofNat x.toNat, UInt8.ofNat y.toNat, UInt8.ofNat z.toNat, UInt8.ofNat u.toNat]) (w.alloc (.cells #[.int .u8 x, .int .u8 y, .int .u8 z, .int .u8 u] 5)) :=
  run_toStr_new w _ _ _ 4 4 [x, y, z, u] rfl Try.underlying80 Try.underlying5 Try.underlying9

set_option maxHeartbeats 1000000 in
theorem ref_frame (s : List UInt8) (w : World) (hs : s.length ≤ 140737488355328) :
    Calls Try.prog 38 #[str s] w fun e w' => e = .returned (.tuple #[str (frameB s), .int .i64 (frameE s)]) ∧ Below w.heap.size w w' := by
  by_cases hl : 65536 < s.length
  · have e1 : frameB s = [] := if_pos hl
    have e2 : frameE s = 4 := if_pos hl
    have t0 : decide ((65536 : Int) < (s.length : Int)) = true := decide_eq_true (by omega)
    rw [e1, e2]
    clear e1 e2 hl
    go_enter Try.func38, Try.ntmps38
    go_wp2_with fail
    go_ret2
    exact ⟨rfl, Below.refl _ _⟩
  · have e1 : frameB s = putText s ++ sumBytes (sum s) := if_neg hl
    have e2 : frameE s = 0 := if_neg hl
    have t0 : decide ((65536 : Int) < (s.length : Int)) = false := decide_eq_false (by omega)
    have hplen : (putText s).length ≤ 65545 := by
      have := putNum_len10 (n := s.length) (by omega)
      simp [putText]; omega
    have HT := Lib.hid (ref_text s w (by omega))
    have hc := sum_lt s
    rw [e1, e2]
    obtain ⟨p, hp⟩ := hide (putText s)
    obtain ⟨c, hcc⟩ := hide (sum s)
    rw [hp.out] at hplen HT ⊢
    rw [hcc.out] at hc ⊢
    have kc := toStr4
    clear e1 e2 hl
    go_enter Try.func38, Try.ntmps38
    go_wp2_with fail
    refine HT.out.mono ?_
    rintro e w1 ⟨rfl, hb1⟩
    have Hb1 := Lib.hid hb1
    have HS := Lib.hid (ref_sum s w1 (by omega))
    rw [hcc.out] at HS
    clear hb1 HT
    go_wp2_with fail
    refine HS.out.mono ?_
    rintro e w2 ⟨rfl, rfl⟩
    have hsum : p.length + 4 ≤ 9223372036854775807 := by omega
    clear HS
    go_wp2_with fail
    go_ret2
    exact ⟨rfl, Hb1.out.trans ((Below.refl _ _).alloc Hb1.out.size _)⟩

set_option maxHeartbeats 1000000 in
theorem wire_frame (s : List UInt8) (w : World) (hs : s.length ≤ 140737488355328) :
    Calls Try.prog 37 #[str s] w fun e w' => e = .returned (.tuple #[str (frameB s), .int .i64 (frameE s)]) ∧ Below w.heap.size w w' := by
  by_cases hl : 65536 < s.length
  · have e1 : frameB s = [] := if_pos hl
    have e2 : frameE s = 4 := if_pos hl
    have t0 : decide ((65536 : Int) < (s.length : Int)) = true := decide_eq_true (by omega)
    rw [e1, e2]
    clear e1 e2 hl
    go_enter Try.func37, Try.ntmps37
    go_wp2_with fail
    go_ret2
    exact ⟨rfl, Below.refl _ _⟩
  · have e1 : frameB s = putText s ++ sumBytes (sum s) := if_neg hl
    have e2 : frameE s = 0 := if_neg hl
    have t0 : decide ((65536 : Int) < (s.length : Int)) = false := decide_eq_false (by omega)
    have hplen : (putText s).length ≤ 65545 := by
      have := putNum_len10 (n := s.length) (by omega)
      simp [putText]; omega
    have HT := Lib.hid (writer_text (w := w.alloc (.cells #[.slice none 0 0] 140)) (b := w.heap.size) (xs := []) s (by simp; omega) ⟨.slice none 0 0, hp_at _ _ rfl, World.ownsRow_nil _ _ _ _⟩)
    rw [List.nil_append] at HT
    have hc := sum_lt s
    rw [e1, e2]
    obtain ⟨p, hp⟩ := hide (putText s)
    obtain ⟨c, hcc⟩ := hide (sum s)
    rw [hp.out] at hplen HT ⊢
    rw [hcc.out] at hc ⊢
    obtain ⟨q, hq⟩ := hide (p ++ sumBytes c)
    rw [hq.out]
    clear e1 e2 hl
    go_enter Try.func37, Try.ntmps37
    go_wp2_with fail
    refine HT.out.mono ?_
    rintro e w1 ⟨rfl, hw1, hb1⟩
    have Hb1 := Lib.hid (((Below.refl w.heap.size w).alloc (Nat.le_refl _) _).trans hb1)
    have HS := Lib.hid (wire_sum s w1 (by omega))
    rw [hcc.out] at HS
    have Hw1 := Lib.hid hw1
    clear hb1 HT hw1
    go_wp2_with fail
    refine HS.out.mono ?_
    rintro e w2 ⟨rfl, rfl⟩
    obtain ⟨v, hb, hown⟩ := Hw1.out
    have c0 := cell_of_one hb
    have f0 := free_of_one hb
    have Hb := Lib.hid hb
    have Ho := Lib.hid hown
    have hsz : w.heap.size + 1 ≤ w1.heap.size := lt_of_block hb
    clear HS hb hown
    go_wp2_with (at_builtin; refine wpList_append_src rfl _ _ 80 80 rfl (w.heap.size + 1) 5 (.int .u8 0) 1 1 Try.underlying80 info_u8 rfl _ _ _ rfl (Ho.out.alloc _) _ 4 _ rfl (src_new Try.underlying80 _ 4 rfl (by intro u hu; simp at hu; rcases hu with rfl | rfl | rfl | rfl <;> rfl)) (by unfold maxLen; omega) (by omega) (by simp; omega) ?_)
    intro v' w2 ho hg
    obtain ⟨ao, co, rfl⟩ := owns_slice ho
    have hg2 := grown_trans (World.grownBy_alloc w1 _ _) hg
    have ho' : w2.ownsRow (w.heap.size + 1) 5 1 (.slice ao (p.length + 4) co) (p ++ sumBytes c).length ((p ++ sumBytes c).map bval) := by
      have e1 : (p ++ sumBytes c).length = p.length + 4 := by simp [sumBytes]
      rw [e1, List.map_append, sumBytes_row hc]; exact ho
    obtain ⟨c1, f1, hw2, hb2⟩ := Wr.stored Hb.out Ho.out ho' hg2
    obtain ⟨v3, hb3, ho3⟩ := hw2
    have c3 := cell_of_one hb3
    have kc := run_toStr_own (P := Try.prog) _ 80 9 5 _ _ v3 (p ++ sumBytes c) Try.underlying80 Try.underlying5 Try.underlying9 ho3
    have Hb2 := Lib.hid (Hb1.out.trans hb2)
    rw [hq.out] at kc
    clear hg hg2 ho ho' hb2 hb3 ho3 c0 f0
    go_wp2_with fail
    go_ret2
    exact ⟨rfl, Hb2.out⟩

/-- what reading a frame hands back -/
def FrameGot (w : World) (res : Res (List UInt8)) (e : Ending) (w' : World) : Prop :=
  e = .returned (.tuple #[str (gotB [] res), str (gotR res), .int .i64 (gotZ res)]) ∧ Below w.heap.size w w'

set_option maxHeartbeats 1000000 in
theorem ref_unframe (s : List UInt8) (w : World) (hs : s.length ≤ 9223372036854775807) :
    Calls Try.prog 40 #[str s] w (FrameGot w (unframe s)) := by
  obtain ⟨res, HR⟩ := hide (unframe s)
  rw [HR.out]
  have hrs : Rs (w.alloc (.cells #[str s, .int .i64 0] 144)) w.heap.size (.ok s) := ⟨hp_at _ _ rfl, hs⟩
  have HT := Lib.hid (text_rs 65536 hrs)
  have kc := toStr4
  have hb0 : Below w.heap.size w (w.alloc (.cells #[str s, .int .i64 0] 144)) := (Below.refl _ _).alloc (Nat.le_refl _) _
  have Hb0 := Lib.hid hb0
  clear hrs hb0
  go_enter Try.func40, Try.ntmps40
  go_wp2_with fail
  refine HT.out.mono ?_
  rintro e w1 ⟨rfl, hr1, hg1⟩
  have hb1 := Hb0.out.trans (grown_below hg1 (Nat.le_refl _) Hb0.out.size)
  have HK := Lib.hid (take_rs 4 hr1)
  have Hb1 := Lib.hid hb1
  clear HT hg1 hr1 hb1
  simp only [stepV, stepS] at HK
  simp only [stepV]
  cases hx : rdText 65536 s with
  | error z =>
    rw [hx] at HK
    obtain rfl : .error z = res := by rw [← HR.out, unframe, hx]
    simp only [rvalOf, rstOf] at HK ⊢
    clear hx
    go_wp2_with fail
    refine HK.out.mono ?_
    rintro e w2 ⟨rfl, hr2, hg2⟩
    have Hb2 := Lib.hid (Hb1.out.trans (grown_below hg2 (Nat.le_refl _) Hb1.out.size))
    have hz : (z != 0) = true := bne_iff_ne.2 hr2.2
    have c1 := two_cell1 hr2.1
    clear hg2 hr2 HK
    go_wp2_with (go_quiet (fail))
    go_ret3
    exact ⟨rfl, below_drewN Hb2.out _⟩
  | ok p =>
    obtain ⟨body, t⟩ := p
    rw [hx] at HK
    simp only [rvalOf, rstOf] at HK ⊢
    go_wp2_with fail
    refine HK.out.mono ?_
    rintro e w2 ⟨rfl, hr2, hg2⟩
    have hb2 := Hb1.out.trans (grown_below hg2 (Nat.le_refl _) Hb1.out.size)
    have Hb2 := Lib.hid hb2
    clear hg2 HK hb2
    cases hy : rdTake 4 t with
    | error z =>
      obtain rfl : .error z = res := by rw [← HR.out, unframe, hx]; simp only [hy]
      rw [hy] at hr2
      simp only [rvalOf, rstOf] at hr2 ⊢
      have hz : (z != 0) = true := bne_iff_ne.2 hr2.2
      have c1 := two_cell1 hr2.1
      clear hr2 hx hy
      go_wp2_with (go_quiet (fail))
      go_ret3
      exact ⟨rfl, below_drewN Hb2.out _⟩
    | ok p =>
      obtain ⟨x, u⟩ := p
      rw [hy] at hr2
      simp only [rvalOf, rstOf] at hr2 ⊢
      have c0 := two_cell0 hr2.1
      have c1 := two_cell1 hr2.1
      have hbl : body.length ≤ s.length := rdText_le hx
      have HS := Lib.hid (ref_sum body w2 (by omega))
      have hc := sum_lt body
      have e1 : (if x = sumBytes (sum body) then .ok (body, u) else .error 2) = res := by rw [← HR.out, unframe, hx]; simp only [hy]
      obtain ⟨c, hcc⟩ := hide (sum body)
      rw [hcc.out] at HS hc e1
      have E1 := Lib.hid e1
      clear hr2 hx hy e1
      go_wp2_with fail
      refine HS.out.mono ?_
      rintro e w3 ⟨rfl, rfl⟩
      have n1 : w2.heap.size ≠ w.heap.size := by have := lt_of_cell c0; simp at this; omega
      have hlt := lt_of_cell c0
      clear HS
      by_cases hxs : x = sumBytes c
      · have e2 : .ok (body, u) = res := by have h := E1.out; rw [if_pos hxs] at h; exact h
        have t0 : (x == sumBytes c) = true := beq_iff_eq.2 hxs
        unfold sumBytes at t0
        subst e2
        clear E1 hxs
        go_wp2_with (go_quiet (fail))
        go_ret3
        exact ⟨rfl, below_drewN (Hb2.out.alloc Hb2.out.size _) _⟩
      · have e2 : .error 2 = res := by have h := E1.out; rw [if_neg hxs] at h; exact h
        have t0 : (x == sumBytes c) = false := beq_eq_false_iff_ne.2 hxs
        unfold sumBytes at t0
        subst e2
        clear E1 hxs
        go_wp2_with (go_quiet (fail))
        go_ret3
        exact ⟨rfl, Hb2.out.alloc Hb2.out.size _⟩

set_option maxHeartbeats 1000000 in
theorem catch_frame (b : Nat) (x y : Value) (z0 z : Int) (w : World) (hx : w.heap[b]? = some (.cells #[x] 9 (0, 0))) (hy : w.heap[b + 1]? = some (.cells #[y] 9 (0, 0))) (he : w.heap[b + 1 + 1]? = some (.cells #[.int .i64 z0] 22 (0, 0))) :
    CallsD Try.prog 90 #[.pointer (some ⟨b, 0, none⟩), .pointer (some ⟨b + 1, 0, none⟩), .pointer (some ⟨b + 1 + 1, 0, none⟩)] (.panicking [{ v := .iface 161 (.agg #[.int .i64 z]), recovered := false }]) w fun e u' w' =>
      e = .returned (.tuple #[]) ∧ u' = .panicking [{ v := .iface 161 (.agg #[.int .i64 z]), recovered := true }] ∧
      w'.cell? ⟨b, 0, none⟩ = some (str []) ∧ w'.cell? ⟨b + 1, 0, none⟩ = some (str []) ∧ w'.cell? ⟨b + 1 + 1, 0, none⟩ = some (.int .i64 z) ∧ Below b w w' := by
  refine callsD_of_wpS Try.func90 rfl fun c₀ cs hu => ?_
  refine wpS_seq_recover rfl (by simp [go_sem]) (v := .iface 161 (.agg #[.int .i64 z])) (cs' := { c₀ with mode := .panicking [{ v := .iface 161 (.agg #[.int .i64 z]), recovered := true }] } :: cs) ?_ ?_
  · simp [recovered, recoverD, hu]
  simp only [Try.ntmps90, List.size_toArray, List.length_cons, List.length_nil, Nat.reduceAdd, Nat.reduceSub, Array.replicate_succ, Array.replicate_zero, List.push_toArray, List.append_toArray, List.nil_append, List.cons_append]
  have l1 := lt_of_block hx
  have l2 := lt_of_block hy
  have l3 := lt_of_block he
  have n1 : w.heap.size ≠ b := by omega
  have n2 : w.heap.size ≠ b + 1 := by omega
  have n3 : w.heap.size ≠ b + 1 + 1 := by omega
  have cx := cell_of_one hx
  have cy := cell_of_one hy
  have ce := cell_of_one he
  have fx := free_of_one hx
  have fy := free_of_one hy
  have fe := free_of_one he
  have Hx := Lib.hid hx
  have Hy := Lib.hid hy
  have He := Lib.hid he
  clear hx hy he
  have k1 := assert_stop
  go_wp2
  go_region
  all_goals go_wp2
  all_goals refine ⟨rfl, _, rfl, _, results_none rfl _ _ _, rfl, rfl, ?_, ?_, ?_, ?_⟩
  all_goals first
    | exact (((((Below.refl b w).setCell (p := ⟨b, 0, none⟩) (Nat.le_refl _) _).setCell (p := ⟨b + 1, 0, none⟩) (Nat.le_succ _) _).setCell (p := ⟨b + 1 + 1, 0, none⟩) (by show b ≤ b + 1 + 1; omega) _).alloc (by simp; omega) _).drew
    | exact (((((Below.refl b w).setCell (p := ⟨b + 1, 0, none⟩) (Nat.le_succ _) _).setCell (p := ⟨b, 0, none⟩) (Nat.le_refl _) _).setCell (p := ⟨b + 1 + 1, 0, none⟩) (by show b ≤ b + 1 + 1; omega) _).alloc (by simp; omega) _).drew
    | (simp [go_sem, World.cell?_setCell_other, World.cell?_setCell_same, cx, cy, ce, fx, fy, fe, l1, l2, l3]; done)

set_option maxHeartbeats 1000000 in
theorem idle_frame (p q r : Addr) (w : World) :
    CallsD Try.prog 90 #[.pointer (some p), .pointer (some q), .pointer (some r)] .returning w fun e u' w' =>
      e = .returned (.tuple #[]) ∧ u' = .returning ∧ w.alloc (.cells #[.int .i64 0] 161) = w' := by
  refine callsD_of_wpS Try.func90 rfl fun c₀ cs hu => ?_
  refine wpS_seq_recover rfl (by simp [go_sem]) (v := .nilIface) (cs' := c₀ :: cs) ?_ ?_
  · simp [recovered, recoverD, hu]
  simp only [Try.ntmps90, List.size_toArray, List.length_cons, List.length_nil, Nat.reduceAdd, Nat.reduceSub, Array.replicate_succ, Array.replicate_zero, List.push_toArray, List.append_toArray, List.nil_append, List.cons_append]
  have k1 := assert_nil
  go_wp2
  refine ⟨rfl, .returning, ?_, _, results_none rfl _ _ _, rfl, rfl, rfl⟩
  cases c₀
  simp_all

set_option maxHeartbeats 2000000 in
theorem wire_unframe (s : List UInt8) (w : World) (hs : s.length ≤ 9223372036854775807) :
    Calls Try.prog 39 #[str s] w (FrameGot w (unframe s)) := by
  have hmf : ∀ (fn : Fn) (first cap : Array Value) (w : World), (Instr.makeFunc fn first cap).run Try.prog w = .ok (.func fn first cap) w := fun _ _ _ _ => rfl
  obtain ⟨res, HR⟩ := hide (unframe s)
  rw [HR.out]
  have kc := toStr4
  go_enter_defers Try.func39, Try.ntmps39
  go_wp2_with fail
  obtain ⟨W, hW⟩ := hide ((((w.alloc (.cells #[str []] 9)).alloc (.cells #[str []] 9)).alloc (.cells #[.int .i64 0] 22)).alloc (.cells #[str s] 164))
  rw [hW.out]
  have Hx : Hid (W.heap[w.heap.size]? = some (.cells #[str []] 9 (0, 0))) := by
    rw [← hW.out]; exact (hp_past _ _ (by simp only [World.size_alloc]; omega)).trans ((hp_past _ _ (by simp only [World.size_alloc]; omega)).trans ((hp_past _ _ (by simp only [World.size_alloc]; omega)).trans (hp_at _ _ rfl)))
  have Hy : Hid (W.heap[w.heap.size + 1]? = some (.cells #[str []] 9 (0, 0))) := by
    rw [← hW.out]; exact (hp_past _ _ (by simp only [World.size_alloc]; omega)).trans ((hp_past _ _ (by simp only [World.size_alloc]; omega)).trans (hp_at _ _ (by simp only [World.size_alloc])))
  have He : Hid (W.heap[w.heap.size + 2]? = some (.cells #[.int .i64 0] 22 (0, 0))) := by
    rw [← hW.out]; exact (hp_past _ _ (by simp only [World.size_alloc]; omega)).trans (hp_at _ _ (by simp only [World.size_alloc]))
  have Hr : Hid (Rd W (w.heap.size + 1 + 1 + 1) s) := by
    rw [← hW.out]; exact ⟨hp_at _ _ (by simp only [World.size_alloc]), hs⟩
  have Hb : Hid (Below w.heap.size w W) := by
    rw [← hW.out]
    exact ((((Below.refl _ _).alloc (Nat.le_refl _) _).alloc (by simp) _).alloc (by simp; omega) _).alloc (by simp; omega) _
  have Hsz : Hid (W.heap.size = w.heap.size + 4) := by rw [← hW.out]; show _ = _; simp
  have Hsum : ∀ body : List UInt8, sum body < 4294967296 := sum_lt
  refine (text_rd 65536 (by decide) Hr.out).mono ?_
  intro e w1 hp
  have step : ∀ (w1 w2 : World), Hid (W.heap.size ≤ w1.heap.size) → w1.grownBy w2 (some (w.heap.size + 1 + 1 + 1)) → Below (w.heap.size + 1 + 1 + 1) w1 w2 :=
    fun _ _ h hg => grown_below hg (Nat.le_refl _) (by have h1 := h.out; have h2 := Hsz.out; omega)
  have Step := Lib.hid step
  clear step
  cases hx : rdText 65536 s with
  | error z =>
    rw [hx] at hp
    obtain ⟨rfl, hg⟩ := hp
    obtain rfl : .error z = res := by rw [← HR.out, unframe, hx]
    have hb1 := Step.out _ _ (Nat.le_refl _) hg
    have hx1 := (hb1.block w.heap.size (by omega)).trans Hx.out
    have hy1 := (hb1.block (w.heap.size + 1) (by omega)).trans Hy.out
    have he1 := (hb1.block (w.heap.size + 1 + 1) (by omega)).trans He.out
    have Hx1 := Lib.hid hx1
    have Hy1 := Lib.hid hy1
    have He1 := Lib.hid he1
    have Hb1 := Lib.hid (Hb.out.trans (hb1.mono (by omega)))
    clear hg hx hb1 hx1 hy1 he1
    go_wp2_with fail
    refine leaves_cons (f := 90) (args := #[.pointer (some ⟨w.heap.size, 0, none⟩), .pointer (some ⟨w.heap.size + 1, 0, none⟩), .pointer (some ⟨w.heap.size + 1 + 1, 0, none⟩)]) (by simp) (by simp [go_sem]) ?_
    refine (catch_frame w.heap.size _ _ 0 z w1 Hx1.out Hy1.out He1.out).mono ?_
    rintro e u' w2 ⟨rfl, rfl, c1, c2, c3, hb2⟩
    have Hb2 := Lib.hid (Hb1.out.trans hb2)
    clear hb2
    simp [Leaves, settle, results, Try.results39, go_sem, c1, c2, c3, FrameGot, gotB, gotR, gotZ]
    exact Hb2.out
  | ok p =>
    obtain ⟨body, t⟩ := p
    rw [hx] at hp
    obtain ⟨rfl, hr1, hg⟩ := hp
    have hb1 := Step.out _ _ (Nat.le_refl _) hg
    have hx1 := (hb1.block w.heap.size (by omega)).trans Hx.out
    have hy1 := (hb1.block (w.heap.size + 1) (by omega)).trans Hy.out
    have he1 := (hb1.block (w.heap.size + 1 + 1) (by omega)).trans He.out
    have cx := cell_of_one hx1
    have fx := free_of_one hx1
    obtain ⟨w2, hw2⟩ := hide (w1.setCell ⟨w.heap.size, 0, none⟩ (str body))
    have Hx2 := Lib.hid (one_setCell (u := str body) hx1)
    have Hy2 := Lib.hid (hp_set_other (a := ⟨w.heap.size, 0, none⟩) (v := str body) hy1 (by simp))
    have He2 := Lib.hid (hp_set_other (a := ⟨w.heap.size, 0, none⟩) (v := str body) he1 (by simp; omega))
    have Hr2 := Lib.hid (hr1.kept (grown_setCell w1 ⟨w.heap.size, 0, none⟩ (str body)) (by simp; omega))
    have Hb2 := Lib.hid ((Hb.out.trans (hb1.mono (by omega))).setCell (p := ⟨w.heap.size, 0, none⟩) (Nat.le_refl _) (str body))
    have Hs2 : Hid (W.heap.size ≤ (w1.setCell ⟨w.heap.size, 0, none⟩ (str body)).heap.size) := by have := hb1.size; show _ ≤ _; simp; omega
    rw [hw2.out] at Hx2 Hy2 He2 Hr2 Hb2 Hs2
    have hbl : body.length ≤ s.length := rdText_le hx
    clear hg hb1 hx1 hy1 he1 hr1
    go_wp2_with fail
    rw [hw2.out]
    refine (take_rd 4 Hr2.out).mono ?_
    intro e w3 hp
    cases hy : rdTake 4 t with
    | error z =>
      rw [hy] at hp
      obtain ⟨rfl, hg⟩ := hp
      obtain rfl : .error z = res := by rw [← HR.out, unframe, hx]; simp only [hy]
      have hb1 := Step.out _ _ Hs2 hg
      have Hx1 := Lib.hid ((hb1.block w.heap.size (by omega)).trans Hx2.out)
      have Hy1 := Lib.hid ((hb1.block (w.heap.size + 1) (by omega)).trans Hy2.out)
      have He1 := Lib.hid ((hb1.block (w.heap.size + 1 + 1) (by omega)).trans He2.out)
      have Hb1 := Lib.hid (Hb2.out.trans (hb1.mono (by omega)))
      clear hg hx hy hb1 cx fx
      go_wp2_with fail
      refine leaves_cons (f := 90) (args := #[.pointer (some ⟨w.heap.size, 0, none⟩), .pointer (some ⟨w.heap.size + 1, 0, none⟩), .pointer (some ⟨w.heap.size + 1 + 1, 0, none⟩)]) (by simp) (by simp [go_sem]) ?_
      refine (catch_frame w.heap.size _ _ 0 z w3 Hx1.out Hy1.out He1.out).mono ?_
      rintro e u' w4 ⟨rfl, rfl, c1, c2, c3, hb2⟩
      have Hb4 := Lib.hid (Hb1.out.trans hb2)
      clear hb2
      simp [Leaves, settle, results, Try.results39, go_sem, c1, c2, c3, FrameGot, gotB, gotR, gotZ]
      exact Hb4.out
    | ok p =>
      obtain ⟨x, u⟩ := p
      rw [hy] at hp
      obtain ⟨rfl, hr3, hg⟩ := hp
      have e1 : (if x = sumBytes (sum body) then .ok (body, u) else .error 2) = res := by rw [← HR.out, unframe, hx]; simp only [hy]
      have hb1 := Step.out _ _ Hs2 hg
      have hx1 := (hb1.block w.heap.size (by omega)).trans Hx2.out
      have hy1 := (hb1.block (w.heap.size + 1) (by omega)).trans Hy2.out
      have he1 := (hb1.block (w.heap.size + 1 + 1) (by omega)).trans He2.out
      have c1 := cell_of_one hx1
      have f1 := free_of_one hx1
      have c2 := cell_of_one hy1
      have f2 := free_of_one hy1
      have c3 := cell_of_one he1
      have f3 := free_of_one he1
      have c4 := hr3.cell
      have l1 := lt_of_block hx1
      have l2 := lt_of_block hy1
      have l3 := lt_of_block he1
      have l4 := lt_of_block hr3.1
      have Hx1 := Lib.hid hx1
      have Hy1 := Lib.hid hy1
      have He1 := Lib.hid he1
      have Hb1 := Lib.hid (Hb2.out.trans (hb1.mono (by omega)))
      have HS := Lib.hid (wire_sum body w3 (by omega))
      have hc := sum_lt body
      obtain ⟨c, hcc⟩ := hide (sum body)
      rw [hcc.out] at HS hc e1
      have E1 := Lib.hid e1
      clear hg hx hy hb1 cx fx hr3 e1 hx1 hy1 he1 Hsum
      go_wp2_with fail
      refine HS.out.mono ?_
      rintro e w4 ⟨rfl, rfl⟩
      clear HS
      by_cases hxs : x = sumBytes c
      · have e2 : .ok (body, u) = res := by have h := E1.out; rw [if_pos hxs] at h; exact h
        have t0 : (x == sumBytes c) = true := beq_iff_eq.2 hxs
        unfold sumBytes at t0
        subst e2
        clear E1 hxs
        go_wp2_with fail
        go_region
        all_goals go_wp2_with fail
        refine leaves_cons (f := 90) (args := #[.pointer (some ⟨w.heap.size, 0, none⟩), .pointer (some ⟨w.heap.size + 1, 0, none⟩), .pointer (some ⟨w.heap.size + 1 + 1, 0, none⟩)]) (by simp) (by simp [go_sem]) ?_
        refine (idle_frame _ _ _ _).mono ?_
        rintro e u' w5 ⟨rfl, rfl, rfl⟩
        have n1 : w.heap.size < w3.heap.size + 1 := by omega
        have n3 : w.heap.size + 1 < w3.heap.size := by omega
        simp [Leaves, settle, results, Try.results39, go_sem, World.cell?_setCell_other, World.cell?_setCell_same, c1, c2, c3, n1, n3, l1, l2, l3, FrameGot, gotB, gotR, gotZ]
        exact (((((Hb1.out.setCell (p := ⟨w.heap.size, 0, none⟩) (Nat.le_refl _) _).setCell (p := ⟨w.heap.size + 1, 0, none⟩) (Nat.le_succ _) _).setCell (p := ⟨w.heap.size + 1 + 1, 0, none⟩) (by show w.heap.size ≤ w.heap.size + 1 + 1; omega) _).alloc (by simp; omega) _).drew).alloc (by simp; omega) _
      · have e2 : .error 2 = res := by have h := E1.out; rw [if_neg hxs] at h; exact h
        have t0 : (x == sumBytes c) = false := beq_eq_false_iff_ne.2 hxs
        unfold sumBytes at t0
        subst e2
        clear E1 hxs
        go_wp2_with (go_at_call 93; refine (fail_any _ _).mono ?_; rintro e w' ⟨rfl, rfl⟩)
        refine leaves_cons (f := 90) (args := #[.pointer (some ⟨w.heap.size, 0, none⟩), .pointer (some ⟨w.heap.size + 1, 0, none⟩), .pointer (some ⟨w.heap.size + 1 + 1, 0, none⟩)]) (by simp) (by simp [go_sem]) ?_
        refine (catch_frame w.heap.size _ _ 0 2 _ ((hp_past _ _ (by omega)).trans Hx1.out) ((hp_past _ _ (by omega)).trans Hy1.out) ((hp_past _ _ (by omega)).trans He1.out)).mono ?_
        rintro e u' w4 ⟨rfl, rfl, c1, c2, c3, hb2⟩
        have Hb4 := Lib.hid ((Hb1.out.alloc Hb1.out.size _).trans hb2)
        clear hb2
        simp [Leaves, settle, results, Try.results39, go_sem, c1, c2, c3, FrameGot, gotB, gotR, gotZ]
        exact Hb4.out
end Go.Proofs.Ytbonmeogmjfkeaa
