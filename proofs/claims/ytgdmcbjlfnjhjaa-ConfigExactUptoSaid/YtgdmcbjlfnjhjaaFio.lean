/-
  A change of who votes, done: config.Finish.
-/
import Derived.Test.YtgdmcbjlfnjhjaaWo
import Derived.Test.YtgdmcbjlfnjhjaaMq
import Derived.Test.YtgdmcbjlfnjhjaaCfp
namespace Go.Proofs.Ytgdmcbjlfnjhjaa
open Go.RowKit Wm Mm
set_option linter.unusedVariables false
set_option linter.unusedSimpArgs false

theorem OwnI.up {S S' : Nat} {w w' : World} {v : Value} {l : List Int} (h : OwnI S w v l) (hu : Up S' w w') (hs : S' ≤ S) : OwnI S w' v l := own_up h hu hs
theorem OwnI.base {S S' : Nat} {w : World} {v : Value} {l : List Int} (h : OwnI S w v l) (hs : S' ≤ S) : OwnI S' w v l := own_base h hs
theorem OwnI.ints {S : Nat} {w : World} {v : Value} {l : List Int} (h : OwnI S w v l) : Ints w v l := Ints.of_own h
theorem OwnI.len {S : Nat} {w : World} {v : Value} {l : List Int} (h : OwnI S w v l) : ∃ ao cap, v = .slice ao l.length cap := owns_slice h
/-- three slices of the call's own are this configuration -/
structure Config3O (S : Nat) (w : World) (a b d : Value) (c : Conf) : Prop where
  v : OwnI S w a c.v
  n : OwnI S w b c.n
  l : OwnI S w d c.l
theorem Config3O.conf {S : Nat} {w : World} {a b d : Value} {c : Conf} (h : Config3O S w a b d c) : Config3 w a b d c := ⟨h.v.ints, h.n.ints, h.l.ints⟩
theorem Config3O.base {S S' : Nat} {w : World} {a b d : Value} {c : Conf} (h : Config3O S w a b d c) (hs : S' ≤ S) : Config3O S' w a b d c := ⟨h.v.base hs, h.n.base hs, h.l.base hs⟩
theorem Config3O.up {S S' : Nat} {w w' : World} {a b d : Value} {c : Conf} (h : Config3O S w a b d c) (hu : Up S' w w') (hs : S' ≤ S) : Config3O S w' a b d c := ⟨h.v.up hu hs, h.n.up hu hs, h.l.up hu hs⟩
theorem Config3O.nil (S : Nat) (w : World) : Config3O S w (.slice none 0 0) (.slice none 0 0) (.slice none 0 0) ⟨[], [], []⟩ := ⟨World.ownsRow_nil _ _ _ _, World.ownsRow_nil _ _ _ _, World.ownsRow_nil _ _ _ _⟩
theorem OwnI.f {S : Nat} {w : World} {v : Value} {l : List Int} (h : OwnI S w v l) : OwnI S w v l := h
theorem clone_o (v : Value) (l : List Int) (w : World) (h : Ints w v l) (hn : l.length ≤ 1099511627776) :
    Calls Try.prog 67 #[v] w fun e w' => ∃ v', e = .returned v' ∧ OwnI w.heap.size w' v' l ∧ Below w.heap.size w w' :=
  (clone_i v l w h hn).mono (fun e w' h => by obtain ⟨v', h1, h2, h3⟩ := h; exact ⟨v', h1, h2.f, h3⟩)
/-- a configuration and an error are handed back -/
def GotOwn (w : World) (r : Int × Conf) (e : Ending) (w' : World) : Prop :=
  ∃ a b d, e = .returned (.tuple #[.agg #[a, b, d], .int .i64 r.1]) ∧ Config3O w.heap.size w' a b d r.2 ∧ Below w.heap.size w w'
theorem nilO {S : Nat} (w : World) : Config3O S w (.slice none 0 0) (.slice none 0 0) (.slice none 0 0) noC := Config3O.nil S w
abbrev zero3o : List Value := [.slice none 0 0, .slice none 0 0, .slice none 0 0]
set_option maxHeartbeats 2000000 in
theorem finish_own (a b d : Value) (c : Conf) (w : World) (hc : Config3 w a b d c) (hn : c.n.length ≤ 1099511627776) (hl : c.l.length ≤ 1099511627776) :
    Calls Try.prog 20 #[.agg #[a, b, d]] w (GotOwn w (finishP c)) := by
  obtain ⟨post, HP⟩ := hide (GotOwn w (finishP c))
  rw [HP.out]
  have hb1 : Below w.heap.size w ((w.alloc (.cells #[a, b, d] 25)).alloc (.cells #[.slice none 0 0, .slice none 0 0, .slice none 0 0] 25)) := ((Below.refl _ _).alloc (Nat.le_refl _) _).alloc (by simp) _
  obtain ⟨W, hW⟩ := hide ((w.alloc (.cells #[a, b, d] 25)).alloc (.cells #[.slice none 0 0, .slice none 0 0, .slice none 0 0] 25))
  have hx : W.heap[w.heap.size]? = some (.cells #[a, b, d] 25 (0, 0)) := by rw [← hW.out]; exact (hp_past _ _ (by simp)).trans (hp_at _ _ rfl)
  have hy : W.heap[w.heap.size + 1]? = some (.cells #[.slice none 0 0, .slice none 0 0, .slice none 0 0] 25 (0, 0)) := by rw [← hW.out]; exact hp_at _ _ (by simp)
  rw [hW.out] at hb1
  have Hc : Hid (∀ w', Below W.heap.size W w' → Config3 w' a b d c) := fun w' h => hc.mono (hb1.trans (h.mono hb1.size))
  have Hx : Hid (∀ w', Below W.heap.size W w' → w'.heap[w.heap.size]? = some (.cells #[a, b, d] 25 (0, 0)) ∧ w'.heap[w.heap.size + 1]? = some (.cells #[.slice none 0 0, .slice none 0 0, .slice none 0 0] 25 (0, 0)) ∧ Below w.heap.size w w') := fun w' h => ⟨(h.block _ (lt_of_block hx)).trans hx, (h.block _ (lt_of_block hy)).trans hy, hb1.trans (h.mono hb1.size)⟩
  have Hws : Hid (w.heap.size + 1 < W.heap.size) := lt_of_block hy
  have HV := Lib.hid (config_valid a b d c W (Hc.out _ (Below.refl _ _)))
  have HJ : Hid (∀ w', Below W.heap.size W w' → Calls Try.prog 19 #[.agg #[a, b, d]] w' fun e w'' => e = .returned (.bool (decide (0 < c.n.length))) ∧ Below w'.heap.size w' w'') := fun w' h => config_joint a b d c w' (Hc.out _ h)
  have HK1 : Hid (∀ w', Below W.heap.size W w' → Calls Try.prog 67 #[b] w' fun e w'' => ∃ v', e = .returned v' ∧ OwnI w'.heap.size w'' v' c.n ∧ Below w'.heap.size w' w'') := fun w' h => clone_o b c.n w' (Hc.out _ h).n hn
  have HK2 : Hid (∀ w', Below W.heap.size W w' → Calls Try.prog 67 #[d] w' fun e w'' => ∃ v', e = .returned v' ∧ OwnI w'.heap.size w'' v' c.l ∧ Below w'.heap.size w' w'') := fun w' h => clone_o d c.l w' (Hc.out _ h).l hl
  have Hdef : Hid (finishP c = if validB c = false ∨ decide (0 < c.n.length) = false then (8, noC) else (0, ⟨c.n, [], c.l⟩)) := by
    show _ = _
    unfold finishP
    by_cases h : validB c = false ∨ c.n.length = 0
    · rw [if_pos h, if_pos (h.imp id (fun h => by rw [h]; rfl))]
    · rw [if_neg h, if_neg (fun h' => h (h'.imp id (fun h2 => by have := of_decide_eq_false h2; omega)))]
  obtain ⟨z, hZ⟩ := hide (validB c)
  obtain ⟨j, hJ⟩ := hide (decide (0 < c.n.length))
  rw [hZ.out] at HV Hdef
  rw [hJ.out] at HJ Hdef
  obtain ⟨B, hB⟩ := hide w.heap.size
  rw [hB.out] at Hx Hws
  have x0 := (Hx.out _ (Below.refl _ _)).1
  have c0 : W.cell? ⟨B, 0, none⟩ = some a := cell_n x0 0 rfl
  have c1 : W.cell? ⟨B, 1, none⟩ = some b := cell_n x0 1 rfl
  have c2 : W.cell? ⟨B, 2, none⟩ = some d := cell_n x0 2 rfl
  clear hb1 hx hy hc hn hl x0
  go_enter Try.func20, Try.ntmps20
  go_upto_region 1 with fail
  rw [hW.out, hB.out]
  go_wp2_with fail
  refine HV.out.mono ?_
  rintro e V ⟨rfl, hb⟩
  have HV0 := Lib.hid hb
  clear hb c0 c1 c2
  cases z with
  | false =>
    have Hr : Hid (finishP c = (8, noC)) := by show _ = _; rw [Hdef.out, if_pos (Or.inl rfl)]
    have y1 := (Hx.out _ HV0.out).2.1
    have q0 : V.cell? ⟨B + 1, 0, none⟩ = some (.slice none 0 0) := cell_n y1 0 rfl
    have q1 : V.cell? ⟨B + 1, 1, none⟩ = some (.slice none 0 0) := cell_n y1 1 rfl
    have q2 : V.cell? ⟨B + 1, 2, none⟩ = some (.slice none 0 0) := cell_n y1 2 rfl
    have f0 := free_n y1 0
    have f1 := free_n y1 1
    have f2 := free_n y1 2
    have HE9 := Lib.hid (setAll_at (xs := zero3o) y1 [.slice none 0 0, .slice none 0 0, .slice none 0 0] rfl)
    have HB9 := Lib.hid (setAll_below (Hx.out _ HV0.out).2.2 (Nat.le_succ B) [.slice none 0 0, .slice none 0 0, .slice none 0 0])
    have HC9 : Hid (Config3O W.heap.size (setAll V (B + 1) [.slice none 0 0, .slice none 0 0, .slice none 0 0]) (.slice none 0 0) (.slice none 0 0) (.slice none 0 0) noC) := nilO _
    clear y1
    go_wp2_with fail
    clear q0 q1 q2 f0 f1 f2
    change bodyPost _ _ _ Exit.ret _ (setAll V (B + 1) [.slice none 0 0, .slice none 0 0, .slice none 0 0])
    generalize setAll V (B + 1) [.slice none 0 0, .slice none 0 0, .slice none 0 0] = W9 at HE9 HB9 HC9 ⊢
    have e0 : W9.cell? ⟨B + 1, 0, none⟩ = some _ := cell_n HE9.out 0 rfl
    have e1 : W9.cell? ⟨B + 1, 1, none⟩ = some _ := cell_n HE9.out 1 rfl
    have e2 : W9.cell? ⟨B + 1, 2, none⟩ = some _ := cell_n HE9.out 2 rfl
    refine bodyPost_ret (by simp [results, Try.results20, go_sem, e0, e1, e2]; rfl) rfl ?_
    rw [← HP.out]
    exact ⟨_, _, _, by rw [Hr.out], by rw [Hr.out]; exact HC9.out.base (by have := Hws.out; have := hB.out; omega), by rw [hB.out]; exact HB9.out⟩
  | true =>
  have x0 := (Hx.out _ HV0.out).1
  have c0 : V.cell? ⟨B, 0, none⟩ = some a := cell_n x0 0 rfl
  have c1 : V.cell? ⟨B, 1, none⟩ = some b := cell_n x0 1 rfl
  have c2 : V.cell? ⟨B, 2, none⟩ = some d := cell_n x0 2 rfl
  clear x0
  go_wp2_with fail
  refine (HJ.out _ HV0.out).mono ?_
  rintro e V2 ⟨rfl, hb⟩
  have HV2 := Lib.hid (HV0.out.trans (hb.mono HV0.out.size))
  clear hb c0 c1 c2
  cases j with
  | false =>
    have Hr : Hid (finishP c = (8, noC)) := by show _ = _; rw [Hdef.out, if_pos (Or.inr rfl)]
    have y1 := (Hx.out _ HV2.out).2.1
    have q0 : V2.cell? ⟨B + 1, 0, none⟩ = some (.slice none 0 0) := cell_n y1 0 rfl
    have q1 : V2.cell? ⟨B + 1, 1, none⟩ = some (.slice none 0 0) := cell_n y1 1 rfl
    have q2 : V2.cell? ⟨B + 1, 2, none⟩ = some (.slice none 0 0) := cell_n y1 2 rfl
    have f0 := free_n y1 0
    have f1 := free_n y1 1
    have f2 := free_n y1 2
    have HE9 := Lib.hid (setAll_at (xs := zero3o) y1 [.slice none 0 0, .slice none 0 0, .slice none 0 0] rfl)
    have HB9 := Lib.hid (setAll_below (Hx.out _ HV2.out).2.2 (Nat.le_succ B) [.slice none 0 0, .slice none 0 0, .slice none 0 0])
    have HC9 : Hid (Config3O W.heap.size (setAll V2 (B + 1) [.slice none 0 0, .slice none 0 0, .slice none 0 0]) (.slice none 0 0) (.slice none 0 0) (.slice none 0 0) noC) := nilO _
    clear y1
    go_wp2_with fail
    clear q0 q1 q2 f0 f1 f2
    change bodyPost _ _ _ Exit.ret _ (setAll V2 (B + 1) [.slice none 0 0, .slice none 0 0, .slice none 0 0])
    generalize setAll V2 (B + 1) [.slice none 0 0, .slice none 0 0, .slice none 0 0] = W9 at HE9 HB9 HC9 ⊢
    have e0 : W9.cell? ⟨B + 1, 0, none⟩ = some _ := cell_n HE9.out 0 rfl
    have e1 : W9.cell? ⟨B + 1, 1, none⟩ = some _ := cell_n HE9.out 1 rfl
    have e2 : W9.cell? ⟨B + 1, 2, none⟩ = some _ := cell_n HE9.out 2 rfl
    refine bodyPost_ret (by simp [results, Try.results20, go_sem, e0, e1, e2]; rfl) rfl ?_
    rw [← HP.out]
    exact ⟨_, _, _, by rw [Hr.out], by rw [Hr.out]; exact HC9.out.base (by have := Hws.out; have := hB.out; omega), by rw [hB.out]; exact HB9.out⟩
  | true =>
  have Hr : Hid (finishP c = (0, ⟨c.n, [], c.l⟩)) := by show _ = _; rw [Hdef.out, if_neg (by simp)]
  go_upto_region 3 with fail
  have H0 := Lib.hid (HV2.out.drew)
  have x0 := (Hx.out _ H0.out).1
  have c0 : V2.drew.cell? ⟨B, 0, none⟩ = some a := cell_n x0 0 rfl
  have c1 : V2.drew.cell? ⟨B, 1, none⟩ = some b := cell_n x0 1 rfl
  have c2 : V2.drew.cell? ⟨B, 2, none⟩ = some d := cell_n x0 2 rfl
  clear x0
  go_region_held3 (fun w' => w'.cell? ⟨B, 1, none⟩ = some b ∧ w'.cell? ⟨B, 2, none⟩ = some d)
    (first | with_reducible exact ⟨c1, c2⟩ | exact hset)
    (first
    | (go_at_call 67; with_reducible refine (HK1.out _ H0.out).mono ?_; rintro e V3 ⟨v1, rfl, hi, hb⟩; obtain ⟨ao1, cp1, rfl⟩ := hi.len; have H1 := Lib.hid (H0.out.trans (hb.mono H0.out.size)); have Hi1 := Lib.hid (hi.base H0.out.size); have x1 := (Hx.out _ H1.out).1; have c1 : V3.cell? ⟨B, 1, none⟩ = some b := cell_n x1 1 rfl; have c2 : V3.cell? ⟨B, 2, none⟩ = some d := cell_n x1 2 rfl;  clear hb hi x1)
    | (go_at_call 67; with_reducible refine (HK2.out _ H1.out).mono ?_; rintro e V4 ⟨v2, rfl, hi, hb⟩; obtain ⟨ao2, cp2, rfl⟩ := hi.len; have H2 := Lib.hid (H1.out.trans (hb.mono H1.out.size)); have Hi2 := Lib.hid (hi.base H1.out.size); have Hj1 := Lib.hid (Hi1.out.up (Up.ofBelow hb) (Nat.le_refl _)); have x1 := (Hx.out _ H2.out).1; have c1 : V4.cell? ⟨B, 1, none⟩ = some b := cell_n x1 1 rfl; have c2 : V4.cell? ⟨B, 2, none⟩ = some d := cell_n x1 2 rfl; have x2 := setAll_other (b := B + 1) x1 (by omega) [.slice ao1 c.n.length cp1, .slice none 0 0, .slice ao2 c.l.length cp2]; have hset : (setAll V4 (B + 1) [.slice ao1 c.n.length cp1, .slice none 0 0, .slice ao2 c.l.length cp2]).cell? ⟨B, 1, none⟩ = some b ∧ (setAll V4 (B + 1) [.slice ao1 c.n.length cp1, .slice none 0 0, .slice ao2 c.l.length cp2]).cell? ⟨B, 2, none⟩ = some d := ⟨cell_n x2 1 rfl, cell_n x2 2 rfl⟩; have y1 := (Hx.out _ H2.out).2.1; have q0 : V4.cell? ⟨B + 1, 0, none⟩ = some (.slice none 0 0) := cell_n y1 0 rfl; have q1 : V4.cell? ⟨B + 1, 1, none⟩ = some (.slice none 0 0) := cell_n y1 1 rfl; have q2 : V4.cell? ⟨B + 1, 2, none⟩ = some (.slice none 0 0) := cell_n y1 2 rfl; have f0 := free_n y1 0; have f1 := free_n y1 1; have f2 := free_n y1 2; clear x2 y1; clear hb hi x1))
  clear q0 q1 q2 f0 f1 f2
  have HE9 := Lib.hid (setAll_at (xs := zero3o) (Hx.out _ H2.out).2.1 [.slice ao1 c.n.length cp1, .slice none 0 0, .slice ao2 c.l.length cp2] rfl)
  have HB9 := Lib.hid (setAll_below (Hx.out _ H2.out).2.2 (Nat.le_succ B) [.slice ao1 c.n.length cp1, .slice none 0 0, .slice ao2 c.l.length cp2])
  have hu := Up.setAll W.heap.size V4 Hws.out [.slice ao1 c.n.length cp1, .slice none 0 0, .slice ao2 c.l.length cp2]
  have HC9 : Hid (Config3O W.heap.size (setAll V4 (B + 1) [.slice ao1 c.n.length cp1, .slice none 0 0, .slice ao2 c.l.length cp2]) (.slice ao1 c.n.length cp1) (.slice none 0 0) (.slice ao2 c.l.length cp2) ⟨c.n, [], c.l⟩) := ⟨Hj1.out.up hu (Nat.le_refl _), World.ownsRow_nil _ _ _ _, Hi2.out.up hu (Nat.le_refl _)⟩
  clear hu hset c0 c1 c2
  go_wp2_with fail
  change bodyPost _ _ _ Exit.ret _ (setAll V4 (B + 1) [.slice ao1 c.n.length cp1, .slice none 0 0, .slice ao2 c.l.length cp2])
  generalize setAll V4 (B + 1) [.slice ao1 c.n.length cp1, .slice none 0 0, .slice ao2 c.l.length cp2] = W9 at HE9 HB9 HC9 ⊢
  have e0 : W9.cell? ⟨B + 1, 0, none⟩ = some _ := cell_n HE9.out 0 rfl
  have e1 : W9.cell? ⟨B + 1, 1, none⟩ = some _ := cell_n HE9.out 1 rfl
  have e2 : W9.cell? ⟨B + 1, 2, none⟩ = some _ := cell_n HE9.out 2 rfl
  refine bodyPost_ret (by simp [results, Try.results20, go_sem, e0, e1, e2]; rfl) rfl ?_
  rw [← HP.out]
  exact ⟨_, _, _, by rw [Hr.out], by rw [Hr.out]; exact HC9.out.base (by have := Hws.out; have := hB.out; omega), by rw [hB.out]; exact HB9.out⟩
end Go.Proofs.Ytgdmcbjlfnjhjaa
