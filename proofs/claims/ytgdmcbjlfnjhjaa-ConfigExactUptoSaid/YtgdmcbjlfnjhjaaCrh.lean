/-
  The reference's changes of who votes, whole: Begin, Finish.
-/
import Derived.Test.YtgdmcbjlfnjhjaaCrg
namespace Go.Proofs.Ytgdmcbjlfnjhjaa
open Go.RowKit Wm Mm
set_option linter.unusedVariables false
set_option linter.unusedSimpArgs false

set_option maxHeartbeats 4000000 in
set_option maxRecDepth 100000 in
theorem refFinish_law (a b d : Value) (c : Conf) (w : World) (hc : Config3 w a b d c) :
    Calls Try.prog 48 #[.agg #[a, b, d]] w (GotR w (finishP c)) := by
  obtain ⟨r, hR⟩ := hide (finishP c)
  have Hdef : Hid (r = if validB c = false ∨ c.n.length = 0 then ((8, noC) : Int × Conf) else (0, ⟨c.n, [], c.l⟩)) := hR.out.symm
  rw [hR.out]
  clear hR
  obtain ⟨post, HP⟩ := hide (GotR w r)
  rw [HP.out]
  obtain ⟨av, cv, hva, _⟩ := len_of_Ints hc.v
  obtain ⟨bv, dv, rfl, _⟩ := len_of_Ints hc.n
  obtain ⟨lv, ev, rfl, _⟩ := len_of_Ints hc.l
  obtain ⟨b, hbv⟩ : ∃ b, b = Value.slice bv c.n.length dv := ⟨_, rfl⟩
  have hav : Hid (a = .slice av c.v.length cv) := hva
  clear hva
  have hb1 : Below w.heap.size w ((w.alloc (.cells #[a, .slice bv c.n.length dv, .slice lv c.l.length ev] 25)).alloc (.cells #[.slice none 0 0, .slice none 0 0, .slice none 0 0] 25)) := ((Below.refl _ _).alloc (Nat.le_refl _) _).alloc (by simp) _
  obtain ⟨W, hW⟩ := hide ((w.alloc (.cells #[a, .slice bv c.n.length dv, .slice lv c.l.length ev] 25)).alloc (.cells #[.slice none 0 0, .slice none 0 0, .slice none 0 0] 25))
  have hx : W.heap[w.heap.size]? = some (.cells #[a, .slice bv c.n.length dv, .slice lv c.l.length ev] 25 (0, 0)) := by rw [← hW.out]; exact (hp_past _ _ (by simp)).trans (hp_at _ _ rfl)
  have hy : W.heap[w.heap.size + 1]? = some (.cells #[.slice none 0 0, .slice none 0 0, .slice none 0 0] 25 (0, 0)) := by rw [← hW.out]; exact hp_at _ _ (by simp)
  rw [hW.out] at hb1
  have Hc : Hid (∀ w', Below w.heap.size w w' → Config3 w' a (.slice bv c.n.length dv) (.slice lv c.l.length ev) c) := fun w' h => hc.mono h
  have Hx : Hid (∀ w', Below W.heap.size W w' → w'.heap[w.heap.size]? = some (.cells #[a, .slice bv c.n.length dv, .slice lv c.l.length ev] 25 (0, 0)) ∧ w'.heap[w.heap.size + 1]? = some (.cells #[.slice none 0 0, .slice none 0 0, .slice none 0 0] 25 (0, 0)) ∧ Below w.heap.size w w') := fun w' h => ⟨(h.block _ (lt_of_block hx)).trans hx, (h.block _ (lt_of_block hy)).trans hy, hb1.trans (h.mono hb1.size)⟩
  have Hws : Hid (w.heap.size + 1 < W.heap.size) := lt_of_block hy
  have HV := Lib.hid (ref_isConfig a (.slice bv c.n.length dv) (.slice lv c.l.length ev) c W (hc.mono hb1))
  obtain ⟨z, hZ⟩ := hide (validB c)
  rw [hZ.out] at HV Hdef
  have Hc0 := Lib.hid hc
  obtain ⟨B, hB⟩ := hide w.heap.size
  rw [hB.out] at Hx Hws Hc
  have x0 := (Hx.out _ (Below.refl _ _)).1
  have c0 : W.cell? ⟨B, 0, none⟩ = some a := cell_n x0 0 rfl
  have c1 : W.cell? ⟨B, 1, none⟩ = some (.slice bv c.n.length dv) := cell_n x0 1 rfl
  have c2 : W.cell? ⟨B, 2, none⟩ = some (.slice lv c.l.length ev) := cell_n x0 2 rfl
  clear hb1 hx hy hc x0 hbv b
  go_enter Try.func48, Try.ntmps48
  go_upto_region 1 with fail
  rw [hW.out, hB.out]
  go_wp2_with fail
  refine HV.out.mono ?_
  rintro e V ⟨rfl, hb⟩
  have HV0 := Lib.hid hb
  clear hb c0 c1 c2
  have n0 : ((c.n.length : Int) == 0) = decide (c.n.length = 0) := by
    by_cases h : c.n.length = 0
    · rw [h]; rfl
    · rw [decide_eq_false h]; exact beq_eq_false_iff_ne.2 (by omega)
  obtain ⟨j, hj⟩ := hide (decide (c.n.length = 0))
  rw [hj.out] at n0
  have x0 := (Hx.out _ HV0.out).1
  have c1 : V.cell? ⟨B, 1, none⟩ = some (.slice bv c.n.length dv) := cell_n x0 1 rfl
  have c2 : V.cell? ⟨B, 2, none⟩ = some (.slice lv c.l.length ev) := cell_n x0 2 rfl
  clear x0
  cases z with
  | false =>
    have Hr : Hid (r = (8, noC)) := by show _ = _; rw [Hdef.out, if_pos (Or.inl rfl)]
    have y1 := (Hx.out _ HV0.out).2.1
    have q0 : V.cell? ⟨B + 1, 0, none⟩ = some (.slice none 0 0) := cell_n y1 0 rfl
    have q1 : V.cell? ⟨B + 1, 1, none⟩ = some (.slice none 0 0) := cell_n y1 1 rfl
    have q2 : V.cell? ⟨B + 1, 2, none⟩ = some (.slice none 0 0) := cell_n y1 2 rfl
    have f0 := free_n y1 0
    have f1 := free_n y1 1
    have f2 := free_n y1 2
    have HE9 := Lib.hid (setAll_at (xs := [.slice none 0 0, .slice none 0 0, .slice none 0 0]) y1 [.slice none 0 0, .slice none 0 0, .slice none 0 0] rfl)
    have HB9 := Lib.hid (setAll_below (Hx.out _ HV0.out).2.2 (Nat.le_succ B) [.slice none 0 0, .slice none 0 0, .slice none 0 0])
    have hu := Up.setAll W.heap.size V Hws.out [.slice none 0 0, .slice none 0 0, .slice none 0 0]
    have HC9 : Hid (Config3 (setAll V (B + 1) [.slice none 0 0, .slice none 0 0, .slice none 0 0]) (.slice none 0 0) (.slice none 0 0) (.slice none 0 0) noC) := (Config3F.nil 0 _).conf
    clear y1 hu
    go_wp2_with fail
    clear q0 q1 q2 f0 f1 f2
    change bodyPost _ _ _ Exit.ret _ (setAll V (B + 1) [.slice none 0 0, .slice none 0 0, .slice none 0 0])
    generalize setAll V (B + 1) [.slice none 0 0, .slice none 0 0, .slice none 0 0] = W9 at HE9 HB9 HC9 ⊢
    have e0 : W9.cell? ⟨B + 1, 0, none⟩ = some _ := cell_n HE9.out 0 rfl
    have e1 : W9.cell? ⟨B + 1, 1, none⟩ = some _ := cell_n HE9.out 1 rfl
    have e2 : W9.cell? ⟨B + 1, 2, none⟩ = some _ := cell_n HE9.out 2 rfl
    refine bodyPost_ret (by simp [results, Try.results48, go_sem, e0, e1, e2]; rfl) rfl ?_
    rw [← HP.out]
    exact ⟨_, _, _, by rw [Hr.out], by rw [Hr.out]; exact HC9.out, by rw [hB.out]; exact HB9.out⟩
  | true =>
  cases j with
  | true =>
    have Hr : Hid (r = (8, noC)) := by show _ = _; rw [Hdef.out, if_pos (Or.inr (of_decide_eq_true hj.out))]
    have y1 := (Hx.out _ HV0.out).2.1
    have q0 : V.cell? ⟨B + 1, 0, none⟩ = some (.slice none 0 0) := cell_n y1 0 rfl
    have q1 : V.cell? ⟨B + 1, 1, none⟩ = some (.slice none 0 0) := cell_n y1 1 rfl
    have q2 : V.cell? ⟨B + 1, 2, none⟩ = some (.slice none 0 0) := cell_n y1 2 rfl
    have f0 := free_n y1 0
    have f1 := free_n y1 1
    have f2 := free_n y1 2
    have HE9 := Lib.hid (setAll_at (xs := [.slice none 0 0, .slice none 0 0, .slice none 0 0]) y1 [.slice none 0 0, .slice none 0 0, .slice none 0 0] rfl)
    have HB9 := Lib.hid (setAll_below (Hx.out _ HV0.out).2.2 (Nat.le_succ B) [.slice none 0 0, .slice none 0 0, .slice none 0 0])
    have hu := Up.setAll W.heap.size V Hws.out [.slice none 0 0, .slice none 0 0, .slice none 0 0]
    have HC9 : Hid (Config3 (setAll V (B + 1) [.slice none 0 0, .slice none 0 0, .slice none 0 0]) (.slice none 0 0) (.slice none 0 0) (.slice none 0 0) noC) := (Config3F.nil 0 _).conf
    clear y1 hu
    go_wp2_with fail
    clear q0 q1 q2 f0 f1 f2
    change bodyPost _ _ _ Exit.ret _ (setAll V (B + 1) [.slice none 0 0, .slice none 0 0, .slice none 0 0])
    generalize setAll V (B + 1) [.slice none 0 0, .slice none 0 0, .slice none 0 0] = W9 at HE9 HB9 HC9 ⊢
    have e0 : W9.cell? ⟨B + 1, 0, none⟩ = some _ := cell_n HE9.out 0 rfl
    have e1 : W9.cell? ⟨B + 1, 1, none⟩ = some _ := cell_n HE9.out 1 rfl
    have e2 : W9.cell? ⟨B + 1, 2, none⟩ = some _ := cell_n HE9.out 2 rfl
    refine bodyPost_ret (by simp [results, Try.results48, go_sem, e0, e1, e2]; rfl) rfl ?_
    rw [← HP.out]
    exact ⟨_, _, _, by rw [Hr.out], by rw [Hr.out]; exact HC9.out, by rw [hB.out]; exact HB9.out⟩
  | false =>
    have Hr : Hid (r = (0, ⟨c.n, [], c.l⟩)) := by show _ = _; rw [Hdef.out, if_neg (fun h => h.elim (fun h => by cases h) (of_decide_eq_false hj.out))]
    have y1 := (Hx.out _ HV0.out).2.1
    have q0 : V.cell? ⟨B + 1, 0, none⟩ = some (.slice none 0 0) := cell_n y1 0 rfl
    have q1 : V.cell? ⟨B + 1, 1, none⟩ = some (.slice none 0 0) := cell_n y1 1 rfl
    have q2 : V.cell? ⟨B + 1, 2, none⟩ = some (.slice none 0 0) := cell_n y1 2 rfl
    have f0 := free_n y1 0
    have f1 := free_n y1 1
    have f2 := free_n y1 2
    have HE9 := Lib.hid (setAll_at (xs := [.slice none 0 0, .slice none 0 0, .slice none 0 0]) y1 [.slice bv c.n.length dv, .slice none 0 0, .slice lv c.l.length ev] rfl)
    have HB9 := Lib.hid (setAll_below (Hx.out _ HV0.out).2.2 (Nat.le_succ B) [.slice bv c.n.length dv, .slice none 0 0, .slice lv c.l.length ev])
    have hu := Up.setAll W.heap.size V Hws.out [.slice bv c.n.length dv, .slice none 0 0, .slice lv c.l.length ev]
    have HC9 : Hid (Config3 (setAll V (B + 1) [.slice bv c.n.length dv, .slice none 0 0, .slice lv c.l.length ev]) (.slice bv c.n.length dv) (.slice none 0 0) (.slice lv c.l.length ev) ⟨c.n, [], c.l⟩) := ⟨(Hc.out _ HB9.out).n, (IntsF.nil 0 _).ints, (Hc.out _ HB9.out).l⟩
    clear y1 hu
    go_wp2_with fail
    clear q0 q1 q2 f0 f1 f2
    change bodyPost _ _ _ Exit.ret _ (setAll V (B + 1) [.slice bv c.n.length dv, .slice none 0 0, .slice lv c.l.length ev])
    generalize setAll V (B + 1) [.slice bv c.n.length dv, .slice none 0 0, .slice lv c.l.length ev] = W9 at HE9 HB9 HC9 ⊢
    have e0 : W9.cell? ⟨B + 1, 0, none⟩ = some _ := cell_n HE9.out 0 rfl
    have e1 : W9.cell? ⟨B + 1, 1, none⟩ = some _ := cell_n HE9.out 1 rfl
    have e2 : W9.cell? ⟨B + 1, 2, none⟩ = some _ := cell_n HE9.out 2 rfl
    refine bodyPost_ret (by simp [results, Try.results48, go_sem, e0, e1, e2]; rfl) rfl ?_
    rw [← HP.out]
    exact ⟨_, _, _, by rw [Hr.out], by rw [Hr.out]; exact HC9.out, by rw [hB.out]; exact HB9.out⟩
set_option maxHeartbeats 4000000 in
set_option maxRecDepth 100000 in
theorem refBegin_law (a b d vo : Value) (c : Conf) (ops : List OpP) (w : World) (hc : Config3 w a b d c) (ho : OpsR w vo ops) :
    Calls Try.prog 45 #[.agg #[a, b, d], vo] w (GotR w (beginP c ops)) := by
  obtain ⟨r, hR⟩ := hide (beginP c ops)
  have Hdef : Hid (r = if validB c = false then ((8, noC) : Int × Conf) else if 0 < c.n.length then (9, noC) else if ops.length = 0 ∨ 6 < ops.length then (4, noC)
      else match opsP c.v ops (c.v, c.l) with | none => (8, noC) | some s => if s.1.length = 0 then (8, noC) else if s.1 = c.v then (0, ⟨s.1, [], s.2⟩) else (0, ⟨c.v, s.1, s.2⟩)) := hR.out.symm
  rw [hR.out]
  clear hR
  obtain ⟨post, HP⟩ := hide (GotR w r)
  rw [HP.out]
  obtain ⟨av, cv, hva, _⟩ := len_of_Ints hc.v
  obtain ⟨bv, dv, rfl, _⟩ := len_of_Ints hc.n
  obtain ⟨lv, ev, rfl, _⟩ := len_of_Ints hc.l
  obtain ⟨b, hbv⟩ : ∃ b, b = Value.slice bv c.n.length dv := ⟨_, rfl⟩
  have hav : Hid (a = .slice av c.v.length cv) := hva
  clear hva
  have hb1 : Below w.heap.size w ((w.alloc (.cells #[a, .slice bv c.n.length dv, .slice lv c.l.length ev] 25)).alloc (.cells #[.slice none 0 0, .slice none 0 0, .slice none 0 0] 25)) := ((Below.refl _ _).alloc (Nat.le_refl _) _).alloc (by simp) _
  obtain ⟨W, hW⟩ := hide ((w.alloc (.cells #[a, .slice bv c.n.length dv, .slice lv c.l.length ev] 25)).alloc (.cells #[.slice none 0 0, .slice none 0 0, .slice none 0 0] 25))
  have hx : W.heap[w.heap.size]? = some (.cells #[a, .slice bv c.n.length dv, .slice lv c.l.length ev] 25 (0, 0)) := by rw [← hW.out]; exact (hp_past _ _ (by simp)).trans (hp_at _ _ rfl)
  have hy : W.heap[w.heap.size + 1]? = some (.cells #[.slice none 0 0, .slice none 0 0, .slice none 0 0] 25 (0, 0)) := by rw [← hW.out]; exact hp_at _ _ (by simp)
  rw [hW.out] at hb1
  have Hc : Hid (∀ w', Below w.heap.size w w' → Config3 w' a (.slice bv c.n.length dv) (.slice lv c.l.length ev) c) := fun w' h => hc.mono h
  have Hx : Hid (∀ w', Below W.heap.size W w' → w'.heap[w.heap.size]? = some (.cells #[a, .slice bv c.n.length dv, .slice lv c.l.length ev] 25 (0, 0)) ∧ w'.heap[w.heap.size + 1]? = some (.cells #[.slice none 0 0, .slice none 0 0, .slice none 0 0] 25 (0, 0)) ∧ Below w.heap.size w w') := fun w' h => ⟨(h.block _ (lt_of_block hx)).trans hx, (h.block _ (lt_of_block hy)).trans hy, hb1.trans (h.mono hb1.size)⟩
  have Hws : Hid (w.heap.size + 1 < W.heap.size) := lt_of_block hy
  have HV := Lib.hid (ref_isConfig a (.slice bv c.n.length dv) (.slice lv c.l.length ev) c W (hc.mono hb1))
  obtain ⟨z, hZ⟩ := hide (validB c)
  rw [hZ.out] at HV Hdef
  have Hc0 := Lib.hid hc
  obtain ⟨B, hB⟩ := hide w.heap.size
  rw [hB.out] at Hx Hws Hc
  have x0 := (Hx.out _ (Below.refl _ _)).1
  have c0 : W.cell? ⟨B, 0, none⟩ = some a := cell_n x0 0 rfl
  have c1 : W.cell? ⟨B, 1, none⟩ = some (.slice bv c.n.length dv) := cell_n x0 1 rfl
  have c2 : W.cell? ⟨B, 2, none⟩ = some (.slice lv c.l.length ev) := cell_n x0 2 rfl
  clear hb1 hx hy hc x0 hbv b
  have HOm : Hid (∀ w', Below W.heap.size W w' → OpsR w' vo ops) := fun w' h => ho.mono (by have := (Hx.out w' h).2.2; rwa [← hB.out] at this)
  have hom := ho
  obtain ⟨ao, co, rfl, _, _⟩ := hom
  have HO : Hid (∀ w', Below W.heap.size W w' → ops ≠ [] → ∃ b off, ao = some ⟨b, off, none⟩ ∧ ∀ j o, ops[j]? = some o → w'.cell? ⟨b, off + j * 2, none⟩ = some (.int .i64 o.kind) ∧ w'.cell? ⟨b, off + j * 2 + 1, none⟩ = some (.int .i64 o.node)) := by
    show ∀ w', _ → _
    intro w' h
    obtain ⟨ao', co', he, hc', _⟩ := HOm.out w' h
    injection he with e1 e2 e3
    subst e1
    exact hc'
  clear ho HOm
  go_enter Try.func45, Try.ntmps45
  go_upto_region 1 with fail
  rw [hW.out, hB.out]
  go_wp2_with fail
  refine HV.out.mono ?_
  rintro e V ⟨rfl, hb⟩
  have HV0 := Lib.hid hb
  clear hb c0 c1 c2
  have x0 := (Hx.out _ HV0.out).1
  have c0 : V.cell? ⟨B, 0, none⟩ = some a := cell_n x0 0 rfl
  have c1 : V.cell? ⟨B, 1, none⟩ = some (.slice bv c.n.length dv) := cell_n x0 1 rfl
  clear x0
  cases z with
  | false =>
    have Hr : Hid (r = (8, noC)) := by show _ = _; rw [Hdef.out, if_pos rfl]
    have y1 := (Hx.out _ HV0.out).2.1
    have q0 : V.cell? ⟨B + 1, 0, none⟩ = some (.slice none 0 0) := cell_n y1 0 rfl
    have q1 : V.cell? ⟨B + 1, 1, none⟩ = some (.slice none 0 0) := cell_n y1 1 rfl
    have q2 : V.cell? ⟨B + 1, 2, none⟩ = some (.slice none 0 0) := cell_n y1 2 rfl
    have f0 := free_n y1 0
    have f1 := free_n y1 1
    have f2 := free_n y1 2
    have HE9 := Lib.hid (setAll_at (xs := [.slice none 0 0, .slice none 0 0, .slice none 0 0]) y1 [.slice none 0 0, .slice none 0 0, .slice none 0 0] rfl)
    have HB9 := Lib.hid (setAll_below (Hx.out _ HV0.out).2.2 (Nat.le_succ B) [.slice none 0 0, .slice none 0 0, .slice none 0 0])
    have hu := Up.setAll W.heap.size V Hws.out [.slice none 0 0, .slice none 0 0, .slice none 0 0]
    have HC9 : Hid (Config3 (setAll V (B + 1) [.slice none 0 0, .slice none 0 0, .slice none 0 0]) (.slice none 0 0) (.slice none 0 0) (.slice none 0 0) noC) := (Config3F.nil 0 _).conf
    clear y1 hu
    go_wp2_with fail
    clear q0 q1 q2 f0 f1 f2
    change bodyPost _ _ _ Exit.ret _ (setAll V (B + 1) [.slice none 0 0, .slice none 0 0, .slice none 0 0])
    generalize setAll V (B + 1) [.slice none 0 0, .slice none 0 0, .slice none 0 0] = W9 at HE9 HB9 HC9 ⊢
    have e0 : W9.cell? ⟨B + 1, 0, none⟩ = some _ := cell_n HE9.out 0 rfl
    have e1 : W9.cell? ⟨B + 1, 1, none⟩ = some _ := cell_n HE9.out 1 rfl
    have e2 : W9.cell? ⟨B + 1, 2, none⟩ = some _ := cell_n HE9.out 2 rfl
    refine bodyPost_ret (by simp [results, Try.results45, go_sem, e0, e1, e2]; rfl) rfl ?_
    rw [← HP.out]
    exact ⟨_, _, _, by rw [Hr.out], by rw [Hr.out]; exact HC9.out, by rw [hB.out]; exact HB9.out⟩
  | true =>
  have n0 : decide (0 < c.n.length) = decide (0 < c.n.length) := rfl
  by_cases hj : 0 < c.n.length
  · have tj : decide (0 < c.n.length) = true := decide_eq_true hj
    have Hr : Hid (r = (9, noC)) := by show _ = _; rw [Hdef.out, if_neg (by simp), if_pos hj]
    clear hj
    have y1 := (Hx.out _ HV0.out).2.1
    have q0 : V.cell? ⟨B + 1, 0, none⟩ = some (.slice none 0 0) := cell_n y1 0 rfl
    have q1 : V.cell? ⟨B + 1, 1, none⟩ = some (.slice none 0 0) := cell_n y1 1 rfl
    have q2 : V.cell? ⟨B + 1, 2, none⟩ = some (.slice none 0 0) := cell_n y1 2 rfl
    have f0 := free_n y1 0
    have f1 := free_n y1 1
    have f2 := free_n y1 2
    have HE9 := Lib.hid (setAll_at (xs := [.slice none 0 0, .slice none 0 0, .slice none 0 0]) y1 [.slice none 0 0, .slice none 0 0, .slice none 0 0] rfl)
    have HB9 := Lib.hid (setAll_below (Hx.out _ HV0.out).2.2 (Nat.le_succ B) [.slice none 0 0, .slice none 0 0, .slice none 0 0])
    have hu := Up.setAll W.heap.size V Hws.out [.slice none 0 0, .slice none 0 0, .slice none 0 0]
    have HC9 : Hid (Config3 (setAll V (B + 1) [.slice none 0 0, .slice none 0 0, .slice none 0 0]) (.slice none 0 0) (.slice none 0 0) (.slice none 0 0) noC) := (Config3F.nil 0 _).conf
    clear y1 hu
    go_wp2_with fail
    clear q0 q1 q2 f0 f1 f2
    change bodyPost _ _ _ Exit.ret _ (setAll V (B + 1) [.slice none 0 0, .slice none 0 0, .slice none 0 0])
    generalize setAll V (B + 1) [.slice none 0 0, .slice none 0 0, .slice none 0 0] = W9 at HE9 HB9 HC9 ⊢
    have e0 : W9.cell? ⟨B + 1, 0, none⟩ = some _ := cell_n HE9.out 0 rfl
    have e1 : W9.cell? ⟨B + 1, 1, none⟩ = some _ := cell_n HE9.out 1 rfl
    have e2 : W9.cell? ⟨B + 1, 2, none⟩ = some _ := cell_n HE9.out 2 rfl
    refine bodyPost_ret (by simp [results, Try.results45, go_sem, e0, e1, e2]; rfl) rfl ?_
    rw [← HP.out]
    exact ⟨_, _, _, by rw [Hr.out], by rw [Hr.out]; exact HC9.out, by rw [hB.out]; exact HB9.out⟩
  have tj : decide (0 < c.n.length) = false := decide_eq_false hj
  have Hd2 : Hid (r = if ops.length = 0 ∨ 6 < ops.length then ((4, noC) : Int × Conf) else match opsP c.v ops (c.v, c.l) with | none => (8, noC) | some s => if s.1.length = 0 then (8, noC) else if s.1 = c.v then (0, ⟨s.1, [], s.2⟩) else (0, ⟨c.v, s.1, s.2⟩)) := by
    show _ = _; rw [Hdef.out, if_neg (by simp), if_neg hj]
  clear hj n0
  by_cases h0 : ops.length = 0
  · have t0 : decide ((ops.length : Int) < 1) = true := decide_eq_true (by omega)
    have Hr : Hid (r = (4, noC)) := by show _ = _; rw [Hd2.out, if_pos (Or.inl h0)]
    clear h0
    have y1 := (Hx.out _ HV0.out).2.1
    have q0 : V.cell? ⟨B + 1, 0, none⟩ = some (.slice none 0 0) := cell_n y1 0 rfl
    have q1 : V.cell? ⟨B + 1, 1, none⟩ = some (.slice none 0 0) := cell_n y1 1 rfl
    have q2 : V.cell? ⟨B + 1, 2, none⟩ = some (.slice none 0 0) := cell_n y1 2 rfl
    have f0 := free_n y1 0
    have f1 := free_n y1 1
    have f2 := free_n y1 2
    have HE9 := Lib.hid (setAll_at (xs := [.slice none 0 0, .slice none 0 0, .slice none 0 0]) y1 [.slice none 0 0, .slice none 0 0, .slice none 0 0] rfl)
    have HB9 := Lib.hid (setAll_below (Hx.out _ HV0.out).2.2 (Nat.le_succ B) [.slice none 0 0, .slice none 0 0, .slice none 0 0])
    have hu := Up.setAll W.heap.size V Hws.out [.slice none 0 0, .slice none 0 0, .slice none 0 0]
    have HC9 : Hid (Config3 (setAll V (B + 1) [.slice none 0 0, .slice none 0 0, .slice none 0 0]) (.slice none 0 0) (.slice none 0 0) (.slice none 0 0) noC) := (Config3F.nil 0 _).conf
    clear y1 hu
    go_wp2_with fail
    clear q0 q1 q2 f0 f1 f2
    change bodyPost _ _ _ Exit.ret _ (setAll V (B + 1) [.slice none 0 0, .slice none 0 0, .slice none 0 0])
    generalize setAll V (B + 1) [.slice none 0 0, .slice none 0 0, .slice none 0 0] = W9 at HE9 HB9 HC9 ⊢
    have e0 : W9.cell? ⟨B + 1, 0, none⟩ = some _ := cell_n HE9.out 0 rfl
    have e1 : W9.cell? ⟨B + 1, 1, none⟩ = some _ := cell_n HE9.out 1 rfl
    have e2 : W9.cell? ⟨B + 1, 2, none⟩ = some _ := cell_n HE9.out 2 rfl
    refine bodyPost_ret (by simp [results, Try.results45, go_sem, e0, e1, e2]; rfl) rfl ?_
    rw [← HP.out]
    exact ⟨_, _, _, by rw [Hr.out], by rw [Hr.out]; exact HC9.out, by rw [hB.out]; exact HB9.out⟩
  have t0 : decide ((ops.length : Int) < 1) = false := decide_eq_false (by omega)
  by_cases h6 : 6 < ops.length
  · have t6 : decide (6 < (ops.length : Int)) = true := decide_eq_true (by omega)
    have Hr : Hid (r = (4, noC)) := by show _ = _; rw [Hd2.out, if_pos (Or.inr h6)]
    clear h0 h6
    have y1 := (Hx.out _ HV0.out).2.1
    have q0 : V.cell? ⟨B + 1, 0, none⟩ = some (.slice none 0 0) := cell_n y1 0 rfl
    have q1 : V.cell? ⟨B + 1, 1, none⟩ = some (.slice none 0 0) := cell_n y1 1 rfl
    have q2 : V.cell? ⟨B + 1, 2, none⟩ = some (.slice none 0 0) := cell_n y1 2 rfl
    have f0 := free_n y1 0
    have f1 := free_n y1 1
    have f2 := free_n y1 2
    have HE9 := Lib.hid (setAll_at (xs := [.slice none 0 0, .slice none 0 0, .slice none 0 0]) y1 [.slice none 0 0, .slice none 0 0, .slice none 0 0] rfl)
    have HB9 := Lib.hid (setAll_below (Hx.out _ HV0.out).2.2 (Nat.le_succ B) [.slice none 0 0, .slice none 0 0, .slice none 0 0])
    have hu := Up.setAll W.heap.size V Hws.out [.slice none 0 0, .slice none 0 0, .slice none 0 0]
    have HC9 : Hid (Config3 (setAll V (B + 1) [.slice none 0 0, .slice none 0 0, .slice none 0 0]) (.slice none 0 0) (.slice none 0 0) (.slice none 0 0) noC) := (Config3F.nil 0 _).conf
    clear y1 hu
    go_wp2_with fail
    clear q0 q1 q2 f0 f1 f2
    change bodyPost _ _ _ Exit.ret _ (setAll V (B + 1) [.slice none 0 0, .slice none 0 0, .slice none 0 0])
    generalize setAll V (B + 1) [.slice none 0 0, .slice none 0 0, .slice none 0 0] = W9 at HE9 HB9 HC9 ⊢
    have e0 : W9.cell? ⟨B + 1, 0, none⟩ = some _ := cell_n HE9.out 0 rfl
    have e1 : W9.cell? ⟨B + 1, 1, none⟩ = some _ := cell_n HE9.out 1 rfl
    have e2 : W9.cell? ⟨B + 1, 2, none⟩ = some _ := cell_n HE9.out 2 rfl
    refine bodyPost_ret (by simp [results, Try.results45, go_sem, e0, e1, e2]; rfl) rfl ?_
    rw [← HP.out]
    exact ⟨_, _, _, by rw [Hr.out], by rw [Hr.out]; exact HC9.out, by rw [hB.out]; exact HB9.out⟩
  have t6 : decide (6 < (ops.length : Int)) = false := decide_eq_false (by omega)
  have Hd3 : Hid (r = match opsP c.v ops (c.v, c.l) with | none => ((8, noC) : Int × Conf) | some s => if s.1.length = 0 then (8, noC) else if s.1 = c.v then (0, ⟨s.1, [], s.2⟩) else (0, ⟨c.v, s.1, s.2⟩)) := by
    show _ = _; rw [Hd2.out, if_neg (fun h => h.elim h0 h6)]
  have Hol : Hid (ops.length ≤ 1099511627776) := by show _ ≤ _; omega
  clear h0 h6
  obtain ⟨g1, g2, g3, g4, g5⟩ := validB_iff.1 hZ.out
  have Hi0 : Hid (InvO c.v (c.v, c.l)) := ⟨g2, g4, fun x hx => ⟨(g5 x hx).1, (g5 x hx).1⟩⟩
  have KB1 := refBut_law a c.v 0 V (Hc.out _ (Hx.out _ HV0.out).2.2).v (by have := rising_lenR g2; omega)
  rw [outP_zero g2] at KB1
  have KB1 := Lib.hid KB1
  have KB2 : Hid (∀ w', Below W.heap.size W w' → Calls Try.prog 83 #[.slice lv c.l.length ev, .int .i64 0] w' fun e w'' => ∃ v', e = .returned v' ∧ OwnJ w'.heap.size w'' v' c.l ∧ Below w'.heap.size w' w'') := by
    show ∀ w', _ → _
    intro w' h
    have := refBut_law (.slice lv c.l.length ev) c.l 0 w' (Hc.out _ (Hx.out _ h).2.2).l (by have := rising_lenR g4; omega)
    rwa [outP_zero g4] at this
  clear g1 g2 g3 g4 g5
  go_wp2_with fail
  refine KB1.out.mono ?_
  rintro e V2 ⟨v7, rfl, ho7, hb2⟩
  have HV2 := Lib.hid (HV0.out.trans (hb2.mono HV0.out.size))
  have G7 := Lib.hid ((ho7.f).base HV0.out.size)
  clear hb2 ho7 c0 c1
  have c2 : V2.cell? ⟨B, 2, none⟩ = some (.slice lv c.l.length ev) := cell_n (Hx.out _ HV2.out).1 2 rfl
  go_upto_region 9 with fail
  try dsimp only
  go_cut [8] from 40 to 42 (fun c8 wc => Hid (IntsF W.heap.size wc v7 c.v) ∧ Hid (IntsF W.heap.size wc c8 c.l) ∧ Hid (Below W.heap.size W wc))
  case first =>
    go_wp2_with fail
    refine (KB2.out _ HV2.out).mono ?_
    rintro e V3 ⟨v8, rfl, ho8, hb3⟩
    have G8 := Lib.hid ((ho8.f).base HV2.out.size)
    have G7b := Lib.hid (G7.out.up (Up.ofBelow hb3) (Nat.le_refl _))
    have HV3 := Lib.hid (HV2.out.trans (hb3.mono HV2.out.size))
    clear hb3 ho8
    go_wp2_with fail
    go_meet
    exact ⟨G7b, G8, HV3⟩
  case rest =>
    obtain ⟨H7, H8, HV3⟩ := hcut
    go_step
    exact refBegin_loop _ _ _ c ops B w W post r HP hB Hws Hx Hc av cv hav _ HV3 _ _ ao co H7 H8 Hol.out Hi0 HO Hd3
end Go.Proofs.Ytgdmcbjlfnjhjaa
