/-
  A change of who votes, begun: config.Begin, whole.
-/
import Derived.Test.YtgdmcbjlfnjhjaaBgo
import Derived.Deep.DeepCutAuto
namespace Go.Proofs.Ytgdmcbjlfnjhjaa
open Go.RowKit Wm Mm
set_option linter.unusedVariables false
set_option linter.unusedSimpArgs false

set_option maxHeartbeats 4000000 in
set_option maxRecDepth 100000 in
theorem begin_own (a b d vo : Value) (c : Conf) (ops : List OpP) (w : World) (hc : Config3 w a b d c) (ho : OpsW w vo ops) :
    Calls Try.prog 18 #[.agg #[a, b, d], vo] w (GotOwn w (beginP c ops)) := by
  obtain ⟨r, hR⟩ := hide (beginP c ops)
  rw [hR.out]
  obtain ⟨post, HP⟩ := hide (GotOwn w r)
  rw [HP.out]
  have hb1 : Below w.heap.size w ((w.alloc (.cells #[a, b, d] 25)).alloc (.cells #[.slice none 0 0, .slice none 0 0, .slice none 0 0] 25)) := ((Below.refl _ _).alloc (Nat.le_refl _) _).alloc (by simp) _
  obtain ⟨W, hW⟩ := hide ((w.alloc (.cells #[a, b, d] 25)).alloc (.cells #[.slice none 0 0, .slice none 0 0, .slice none 0 0] 25))
  have hx : W.heap[w.heap.size]? = some (.cells #[a, b, d] 25 (0, 0)) := by rw [← hW.out]; exact (hp_past _ _ (by simp)).trans (hp_at _ _ rfl)
  have hy : W.heap[w.heap.size + 1]? = some (.cells #[.slice none 0 0, .slice none 0 0, .slice none 0 0] 25 (0, 0)) := by rw [← hW.out]; exact hp_at _ _ (by simp)
  rw [hW.out] at hb1
  have Hc : Hid (∀ w', Below W.heap.size W w' → Config3 w' a b d c) := fun w' h => hc.mono (hb1.trans (h.mono hb1.size))
  have Hx : Hid (∀ w', Below W.heap.size W w' → w'.heap[w.heap.size]? = some (.cells #[a, b, d] 25 (0, 0)) ∧ w'.heap[w.heap.size + 1]? = some (.cells #[.slice none 0 0, .slice none 0 0, .slice none 0 0] 25 (0, 0)) ∧ Below w.heap.size w w') := fun w' h => ⟨(h.block _ (lt_of_block hx)).trans hx, (h.block _ (lt_of_block hy)).trans hy, hb1.trans (h.mono hb1.size)⟩
  have Hws : Hid (w.heap.size + 1 < W.heap.size) := lt_of_block hy
  have HOm : Hid (∀ w', Below W.heap.size W w' → OpsW w' vo ops) := fun w' h => ho.mono (hb1.trans (h.mono hb1.size))
  have hom := ho
  obtain ⟨ao, co, rfl, _, _⟩ := hom
  have HO : Hid (∀ w', Below W.heap.size W w' → ops ≠ [] → ∃ b off, ao = some ⟨b, off, none⟩ ∧ ∀ j o, ops[j]? = some o → w'.cell? ⟨b, off + j * 2, none⟩ = some (.int .i64 o.kind) ∧ w'.cell? ⟨b, off + j * 2 + 1, none⟩ = some (.int .i64 o.node)) := by
    show ∀ w', _ → _
    intro w' h
    obtain ⟨ao', co', he, hc', _⟩ := HOm.out w' h
    injection he with e1 e2 e3
    subst e1
    exact hc'
  have HV := Lib.hid (config_valid a b d c W (Hc.out _ (Below.refl _ _)))
  have HJ : Hid (∀ w', Below W.heap.size W w' → Calls Try.prog 19 #[.agg #[a, b, d]] w' fun e w'' => e = .returned (.bool (decide (0 < c.n.length))) ∧ Below w'.heap.size w' w'') := fun w' h => config_joint a b d c w' (Hc.out _ h)
  have Hdef : Hid (r = if validB c = false then ((8, noC) : Int × Conf) else if 0 < c.n.length then (9, noC) else if ops.length = 0 ∨ 6 < ops.length then (4, noC)
      else match opsP c.v ops (c.v, c.l) with | none => ((8, noC) : Int × Conf) | some s => if s.1.length = 0 then (8, noC) else if s.1 = c.v then (0, ⟨s.1, [], s.2⟩) else (0, ⟨c.v, s.1, s.2⟩)) := hR.out.symm
  obtain ⟨z, hZ⟩ := hide (validB c)
  obtain ⟨j, hJ⟩ := hide (decide (0 < c.n.length))
  rw [hZ.out] at HV Hdef
  rw [hJ.out] at HJ
  obtain ⟨B, hB⟩ := hide w.heap.size
  rw [hB.out] at Hx Hws
  have x0 := (Hx.out _ (Below.refl _ _)).1
  have c0 : W.cell? ⟨B, 0, none⟩ = some a := cell_n x0 0 rfl
  have c1 : W.cell? ⟨B, 1, none⟩ = some b := cell_n x0 1 rfl
  have c2 : W.cell? ⟨B, 2, none⟩ = some d := cell_n x0 2 rfl
  clear hb1 hx hy hc x0 hR ho HOm
  go_enter Try.func18, Try.ntmps18
  go_upto_region 1 with fail
  rw [hW.out, hB.out]
  go_wp2_with fail
  refine HV.out.mono ?_
  rintro e V ⟨rfl, hb⟩
  have HV0 := Lib.hid hb
  clear hb c0 c1 c2
  cases z with
  | false =>
    have Hr : Hid (r = (8, noC)) := by show _ = _; rw [Hdef.out, if_pos rfl]
    have y1 := (Hx.out _ HV0.out).2.1
    have q0 : V.cell? ⟨B + 1, 0, none⟩ = some (.slice none 0 0) := cell_n y1 0 rfl
    have q1 : V.cell? ⟨B + 1, 1, none⟩ = some (.slice none 0 0) := cell_n y1 1 rfl
    have q2 : V.cell? ⟨B + 1, 2, none⟩ = some (.slice none 0 0) := cell_n y1 2 rfl
    have f0 := free_n y1 0
    have f1 := free_n y1 1
    have f2 := free_n y1 2
    have HE9 := Lib.hid (setAll_at (xs := zero3o) y1 [.slice none 0 0, .slice none 0 0, .slice none 0 0] rfl)
    have HB9 := Lib.hid (setAll_below (Hx.out _ HV0.out).2.2 (Nat.le_succ B) [.slice none 0 0, .slice none 0 0, .slice none 0 0])
    have HC9 : Hid (Config3O W.heap.size (setAll V (B + 1) [.slice none 0 0, .slice none 0 0, .slice none 0 0]) (.slice none 0 0) (.slice none 0 0) (.slice none 0 0) noC) := nilO _
    clear y1
    go_wp2_with fail
    clear q0 q1 q2 f0 f1 f2
    change bodyPost _ _ _ Exit.ret _ (setAll V (B + 1) [.slice none 0 0, .slice none 0 0, .slice none 0 0])
    generalize setAll V (B + 1) [.slice none 0 0, .slice none 0 0, .slice none 0 0] = W9 at HE9 HB9 HC9 ⊢
    have e0 : W9.cell? ⟨B + 1, 0, none⟩ = some _ := cell_n HE9.out 0 rfl
    have e1 : W9.cell? ⟨B + 1, 1, none⟩ = some _ := cell_n HE9.out 1 rfl
    have e2 : W9.cell? ⟨B + 1, 2, none⟩ = some _ := cell_n HE9.out 2 rfl
    refine bodyPost_ret (by simp [results, Try.results18, go_sem, e0, e1, e2]; rfl) rfl ?_
    rw [← HP.out]
    exact ⟨_, _, _, by rw [Hr.out], by rw [Hr.out]; exact HC9.out.base (by have := Hws.out; have := hB.out; omega), by rw [hB.out]; exact HB9.out⟩
  | true =>
  have x0 := (Hx.out _ HV0.out).1
  have c0 : V.cell? ⟨B, 0, none⟩ = some a := cell_n x0 0 rfl
  have c1 : V.cell? ⟨B, 1, none⟩ = some b := cell_n x0 1 rfl
  have c2 : V.cell? ⟨B, 2, none⟩ = some d := cell_n x0 2 rfl
  clear x0
  go_wp2_with fail
  refine (HJ.out _ HV0.out).mono ?_
  rintro e V2 ⟨rfl, hb⟩
  have HV2 := Lib.hid (HV0.out.trans (hb.mono HV0.out.size))
  clear hb c0 c1 c2
  cases j with
  | true =>
    have Hr : Hid (r = (9, noC)) := by show _ = _; rw [Hdef.out, if_neg (by simp), if_pos (of_decide_eq_true hJ.out)]
    have y1 := (Hx.out _ HV2.out).2.1
    have q0 : V2.cell? ⟨B + 1, 0, none⟩ = some (.slice none 0 0) := cell_n y1 0 rfl
    have q1 : V2.cell? ⟨B + 1, 1, none⟩ = some (.slice none 0 0) := cell_n y1 1 rfl
    have q2 : V2.cell? ⟨B + 1, 2, none⟩ = some (.slice none 0 0) := cell_n y1 2 rfl
    have f0 := free_n y1 0
    have f1 := free_n y1 1
    have f2 := free_n y1 2
    have HE9 := Lib.hid (setAll_at (xs := zero3o) y1 [.slice none 0 0, .slice none 0 0, .slice none 0 0] rfl)
    have HB9 := Lib.hid (setAll_below (Hx.out _ HV2.out).2.2 (Nat.le_succ B) [.slice none 0 0, .slice none 0 0, .slice none 0 0])
    have HC9 : Hid (Config3O W.heap.size (setAll V2 (B + 1) [.slice none 0 0, .slice none 0 0, .slice none 0 0]) (.slice none 0 0) (.slice none 0 0) (.slice none 0 0) noC) := nilO _
    clear y1
    go_wp2_with fail
    clear q0 q1 q2 f0 f1 f2
    change bodyPost _ _ _ Exit.ret _ (setAll V2 (B + 1) [.slice none 0 0, .slice none 0 0, .slice none 0 0])
    generalize setAll V2 (B + 1) [.slice none 0 0, .slice none 0 0, .slice none 0 0] = W9 at HE9 HB9 HC9 ⊢
    have e0 : W9.cell? ⟨B + 1, 0, none⟩ = some _ := cell_n HE9.out 0 rfl
    have e1 : W9.cell? ⟨B + 1, 1, none⟩ = some _ := cell_n HE9.out 1 rfl
    have e2 : W9.cell? ⟨B + 1, 2, none⟩ = some _ := cell_n HE9.out 2 rfl
    refine bodyPost_ret (by simp [results, Try.results18, go_sem, e0, e1, e2]; rfl) rfl ?_
    rw [← HP.out]
    exact ⟨_, _, _, by rw [Hr.out], by rw [Hr.out]; exact HC9.out.base (by have := Hws.out; have := hB.out; omega), by rw [hB.out]; exact HB9.out⟩
  | false =>
  have hj := of_decide_eq_false hJ.out
  have Hd2 : Hid (r = if ops.length = 0 ∨ 6 < ops.length then ((4, noC) : Int × Conf) else match opsP c.v ops (c.v, c.l) with | none => ((8, noC) : Int × Conf) | some s => if s.1.length = 0 then (8, noC) else if s.1 = c.v then (0, ⟨s.1, [], s.2⟩) else (0, ⟨c.v, s.1, s.2⟩)) := by
    show _ = _; rw [Hdef.out, if_neg (by simp), if_neg hj]
  clear hj
  by_cases h0 : ops.length = 0
  · have t0 : ((ops.length : Int) == 0) = true := by rw [h0]; rfl
    have Hr : Hid (r = (4, noC)) := by show _ = _; rw [Hd2.out, if_pos (Or.inl h0)]
    clear h0
    have y1 := (Hx.out _ HV2.out).2.1
    have q0 : V2.cell? ⟨B + 1, 0, none⟩ = some (.slice none 0 0) := cell_n y1 0 rfl
    have q1 : V2.cell? ⟨B + 1, 1, none⟩ = some (.slice none 0 0) := cell_n y1 1 rfl
    have q2 : V2.cell? ⟨B + 1, 2, none⟩ = some (.slice none 0 0) := cell_n y1 2 rfl
    have f0 := free_n y1 0
    have f1 := free_n y1 1
    have f2 := free_n y1 2
    have HE9 := Lib.hid (setAll_at (xs := zero3o) y1 [.slice none 0 0, .slice none 0 0, .slice none 0 0] rfl)
    have HB9 := Lib.hid (setAll_below (Hx.out _ HV2.out).2.2 (Nat.le_succ B) [.slice none 0 0, .slice none 0 0, .slice none 0 0])
    have HC9 : Hid (Config3O W.heap.size (setAll V2 (B + 1) [.slice none 0 0, .slice none 0 0, .slice none 0 0]) (.slice none 0 0) (.slice none 0 0) (.slice none 0 0) noC) := nilO _
    clear y1
    go_wp2_with fail
    clear q0 q1 q2 f0 f1 f2
    change bodyPost _ _ _ Exit.ret _ (setAll V2 (B + 1) [.slice none 0 0, .slice none 0 0, .slice none 0 0])
    generalize setAll V2 (B + 1) [.slice none 0 0, .slice none 0 0, .slice none 0 0] = W9 at HE9 HB9 HC9 ⊢
    have e0 : W9.cell? ⟨B + 1, 0, none⟩ = some _ := cell_n HE9.out 0 rfl
    have e1 : W9.cell? ⟨B + 1, 1, none⟩ = some _ := cell_n HE9.out 1 rfl
    have e2 : W9.cell? ⟨B + 1, 2, none⟩ = some _ := cell_n HE9.out 2 rfl
    refine bodyPost_ret (by simp [results, Try.results18, go_sem, e0, e1, e2]; rfl) rfl ?_
    rw [← HP.out]
    exact ⟨_, _, _, by rw [Hr.out], by rw [Hr.out]; exact HC9.out.base (by have := Hws.out; have := hB.out; omega), by rw [hB.out]; exact HB9.out⟩
  have t0 : ((ops.length : Int) == 0) = false := beq_eq_false_iff_ne.2 (by omega)
  by_cases h6 : 6 < ops.length
  · have t6 : decide (6 < (ops.length : Int)) = true := decide_eq_true (by omega)
    have Hr : Hid (r = (4, noC)) := by show _ = _; rw [Hd2.out, if_pos (Or.inr h6)]
    clear h0 h6
    have y1 := (Hx.out _ HV2.out).2.1
    have q0 : V2.cell? ⟨B + 1, 0, none⟩ = some (.slice none 0 0) := cell_n y1 0 rfl
    have q1 : V2.cell? ⟨B + 1, 1, none⟩ = some (.slice none 0 0) := cell_n y1 1 rfl
    have q2 : V2.cell? ⟨B + 1, 2, none⟩ = some (.slice none 0 0) := cell_n y1 2 rfl
    have f0 := free_n y1 0
    have f1 := free_n y1 1
    have f2 := free_n y1 2
    have HE9 := Lib.hid (setAll_at (xs := zero3o) y1 [.slice none 0 0, .slice none 0 0, .slice none 0 0] rfl)
    have HB9 := Lib.hid (setAll_below (Hx.out _ HV2.out).2.2 (Nat.le_succ B) [.slice none 0 0, .slice none 0 0, .slice none 0 0])
    have HC9 : Hid (Config3O W.heap.size (setAll V2 (B + 1) [.slice none 0 0, .slice none 0 0, .slice none 0 0]) (.slice none 0 0) (.slice none 0 0) (.slice none 0 0) noC) := nilO _
    clear y1
    go_wp2_with fail
    clear q0 q1 q2 f0 f1 f2
    change bodyPost _ _ _ Exit.ret _ (setAll V2 (B + 1) [.slice none 0 0, .slice none 0 0, .slice none 0 0])
    generalize setAll V2 (B + 1) [.slice none 0 0, .slice none 0 0, .slice none 0 0] = W9 at HE9 HB9 HC9 ⊢
    have e0 : W9.cell? ⟨B + 1, 0, none⟩ = some _ := cell_n HE9.out 0 rfl
    have e1 : W9.cell? ⟨B + 1, 1, none⟩ = some _ := cell_n HE9.out 1 rfl
    have e2 : W9.cell? ⟨B + 1, 2, none⟩ = some _ := cell_n HE9.out 2 rfl
    refine bodyPost_ret (by simp [results, Try.results18, go_sem, e0, e1, e2]; rfl) rfl ?_
    rw [← HP.out]
    exact ⟨_, _, _, by rw [Hr.out], by rw [Hr.out]; exact HC9.out.base (by have := Hws.out; have := hB.out; omega), by rw [hB.out]; exact HB9.out⟩
  have t6 : decide (6 < (ops.length : Int)) = false := decide_eq_false (by omega)
  have Hd3 : Hid (r = match opsP c.v ops (c.v, c.l) with | none => ((8, noC) : Int × Conf) | some s => if s.1.length = 0 then (8, noC) else if s.1 = c.v then (0, ⟨s.1, [], s.2⟩) else (0, ⟨c.v, s.1, s.2⟩)) := by
    show _ = _; rw [Hd2.out, if_neg (fun h => h.elim h0 h6)]
  have Hol : Hid (ops.length ≤ 1099511627776) := by show _ ≤ _; omega
  clear h0 h6
  obtain ⟨g1, g2, g3, g4, g5⟩ := validB_iff.1 hZ.out
  have Hi0 : Hid (InvO c.v (c.v, c.l)) := ⟨g2, g4, fun x hx => ⟨(g5 x hx).1, (g5 x hx).1⟩⟩
  have hv9 := rising_len g2
  have hl9 := rising_len g4
  have HK1 : Hid (∀ w', Below W.heap.size W w' → Calls Try.prog 67 #[a] w' fun e w'' => ∃ v', e = .returned v' ∧ OwnI w'.heap.size w'' v' c.v ∧ Below w'.heap.size w' w'') := fun w' h => clone_o a c.v w' (Hc.out _ h).v (by omega)
  have HK2 : Hid (∀ w', Below W.heap.size W w' → Calls Try.prog 67 #[d] w' fun e w'' => ∃ v', e = .returned v' ∧ OwnI w'.heap.size w'' v' c.l ∧ Below w'.heap.size w' w'') := fun w' h => clone_o d c.l w' (Hc.out _ h).l (by omega)
  have Hv9 : Hid (c.v.length ≤ 1099511627776) := by show _ ≤ _; omega
  clear g1 g2 g3 g4 g5 hv9 hl9
  go_upto_region 7 with fail
  try dsimp only
  go_cut [6, 7] from 31 to 36 (fun c6 c7 wc => Hid (OwnI W.heap.size wc c6 c.v) ∧ Hid (OwnI W.heap.size wc c7 c.l) ∧ Hid (Below W.heap.size W wc))
  case first =>
    have H0 := Lib.hid (HV2.out.drew)
    have x0 := (Hx.out _ H0.out).1
    have c0 : V2.drew.cell? ⟨B, 0, none⟩ = some a := cell_n x0 0 rfl
    have c2 : V2.drew.cell? ⟨B, 2, none⟩ = some d := cell_n x0 2 rfl
    clear x0
    go_region_held3 (fun w' => w'.cell? ⟨B, 0, none⟩ = some a ∧ w'.cell? ⟨B, 2, none⟩ = some d) (first | with_reducible exact ⟨c0, c2⟩ | go_keep) (first
      | (go_at_call 67; (with_reducible refine (HK1.out _ H0.out).mono ?_); rintro e V3 ⟨v1, rfl, ho, hb⟩; have H1 := Lib.hid (H0.out.trans (hb.mono H0.out.size)); have Hi1 := Lib.hid (ho.base H0.out.size); have x1 := (Hx.out _ H1.out).1; have c0 : V3.cell? ⟨B, 0, none⟩ = some a := cell_n x1 0 rfl; have c2 : V3.cell? ⟨B, 2, none⟩ = some d := cell_n x1 2 rfl; clear hb ho x1)
      | (go_at_call 67; (with_reducible refine (HK2.out _ H1.out).mono ?_); rintro e V4 ⟨v2, rfl, ho, hb⟩; have H2 := Lib.hid (H1.out.trans (hb.mono H1.out.size)); have Hi2 := Lib.hid (ho.base H1.out.size); have Hj1 := Lib.hid (Hi1.out.up (Up.ofBelow hb) (Nat.le_refl _)); have x1 := (Hx.out _ H2.out).1; have c0 : V4.cell? ⟨B, 0, none⟩ = some a := cell_n x1 0 rfl; have c2 : V4.cell? ⟨B, 2, none⟩ = some d := cell_n x1 2 rfl; clear hb ho x1))
    all_goals
      go_wp2_with fail
      go_meet
      exact ⟨Hj1, Hi2, H2⟩
  case rest =>
    obtain ⟨G6, G7, GV⟩ := hcut
    go_step
    exact begino_loop a b d c ops B w W post r HP hB Hws Hx Hc _ GV _ _ ao co G6 G7 Hv9.out Hol.out Hi0 HO Hd3
end Go.Proofs.Ytgdmcbjlfnjhjaa
