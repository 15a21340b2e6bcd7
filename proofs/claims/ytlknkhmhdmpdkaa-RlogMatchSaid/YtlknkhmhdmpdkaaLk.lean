/-
  A log without all up to an index, both ways.
-/
import Derived.Test.YtlknkhmhdmpdkaaLf
import Derived.Test.YtlknkhmhdmpdkaaLh
import Derived.Deep.RegionLaw
namespace Go.Proofs.Ytlknkhmhdmpdkaa
open Go.RowKit Wm Mm Lg
set_option linter.unusedVariables false
set_option linter.unusedSimpArgs false

structure Cpt where
  base : Int
  bt : Int
  es : List EntP
  err : Int
def compactOf (base bt : Int) (es : List EntP) (i : Int) : Cpt :=
  if (termAt base bt es i).2 = 0 then ⟨i, (termAt base bt es i).1, es.drop (i - base).toNat, 0⟩ else ⟨0, 0, [], (termAt base bt es i).2⟩
theorem termAt_ok {base bt i : Int} {es : List EntP} (h : (termAt base bt es i).2 = 0) : base ≤ i ∧ i ≤ base + es.length := by
  by_cases h1 : i < base
  · rw [termAt_low h1] at h; simp at h
  · by_cases h2 : base + es.length < i
    · rw [termAt_far (by omega) h2] at h; simp at h
    · omega
theorem ents_from {F : Nat → Prop} {w : World} {a : Addr} {cap m : Nat} {es : List EntP} (h : Ents F w (.slice (some a) es.length cap) es) (hm : m ≤ es.length) (hcap : es.length ≤ cap) :
    ∃ av, Ents F w (.slice av (es.length - m) (cap - m)) (es.drop m) ∧ ((cap = m ∧ av = some a) ∨ (cap ≠ m ∧ av = some (a.add (m * 4)))) := by
  by_cases hcm : cap = m
  · refine ⟨some a, ?_, Or.inl ⟨hcm, rfl⟩⟩
    have h0 : es.drop m = [] := List.drop_eq_nil_of_le (by omega)
    rw [h0]
    exact ⟨some a, cap - m, by rw [List.length_nil, show es.length - m = 0 from by omega], ⟨by simp, fun h => by cases h⟩, by simp, fun h => absurd rfl h⟩
  · by_cases h0 : 0 < es.length
    · obtain ⟨b, off, e, _, _⟩ := h.all h0
      injection e with e
      subst e
      have hadd : (⟨b, off, none⟩ : Addr).add (m * 4) = ⟨b, off + m * 4, none⟩ := by unfold Addr.add; split <;> simp_all
      exact ⟨_, Sl.drop h hm, Or.inr ⟨hcm, by rw [hadd]⟩⟩
    · refine ⟨some (a.add (m * 4)), ?_, Or.inr ⟨hcm, rfl⟩⟩
      have h1 : es.drop m = [] := List.drop_eq_nil_of_le (by omega)
      rw [h1]
      exact ⟨some (a.add (m * 4)), cap - m, by rw [List.length_nil, show es.length - m = 0 from by omega], ⟨by simp, fun h => by cases h⟩, by simp, fun h => absurd rfl h⟩

set_option maxHeartbeats 4000000 in
set_option maxRecDepth 100000 in
theorem wire_compact (base bt i : Int) (ev : Value) (es : List EntP) (F : Nat → Prop) (w : World) (h : Ents F w ev es) (hk : Ok base es) (hi1 : -4398046511104 ≤ i) (hi2 : i ≤ 4398046511104) :
    Calls Try.prog 41 #[vLog base bt ev, .int .i64 i] w fun e w' => ∃ v', e = .returned (.tuple #[vLog (compactOf base bt es i).base (compactOf base bt es i).bt v', .int .i64 (compactOf base bt es i).err]) ∧ OwnE w.heap.size w' v' (compactOf base bt es i).es ∧ Below w.heap.size w w' := by
  obtain ⟨X, hX⟩ := hide (compactOf base bt es i)
  rw [hX.out]
  obtain ⟨post, HP⟩ := hide (fun (e : Ending) (w' : World) => ∃ v', e = .returned (.tuple #[vLog X.base X.bt v', .int .i64 X.err]) ∧ OwnE w.heap.size w' v' X.es ∧ Below w.heap.size w w')
  rw [HP.out]
  obtain ⟨ao, cap, rfl, hcap, hmax⟩ := h.slice
  obtain ⟨W, hW⟩ := hide ((w.alloc (.cells (oLog base bt (.slice ao es.length cap)) 52)).alloc (.cells (oLog 0 0 (.slice none 0 0)) 52))
  have hb0' : Below w.heap.size w W := by rw [← hW.out]; exact ((Below.refl _ _).alloc (Nat.le_refl _) _).alloc (by simp) _
  have hl2 := (h.weak (G := fun k => k < w.heap.size) (Plain.good _) (fun k _ h => h)).frame (Plain.good _) (Agree.below hb0')
  obtain ⟨B, hB⟩ := hide w.heap.size
  have hc : W.heap[B]? = some (.cells (oLog base bt (.slice ao es.length cap)) 52 (0, 0)) := by rw [← hW.out, ← hB.out]; exact (hp_past _ _ (by simp)).trans (hp_at _ _ rfl)
  have hd : W.heap[B + 1]? = some (.cells (oLog 0 0 (.slice none 0 0)) 52 (0, 0)) := by rw [← hW.out, ← hB.out]; exact hp_at _ _ (by simp)
  have hsz : W.heap.size = B + 2 := by rw [← hW.out, ← hB.out]; simp
  rw [hB.out] at hb0' hl2
  have Hx : Hid (∀ w', Below W.heap.size W w' → w'.heap[B]? = some (.cells (oLog base bt (.slice ao es.length cap)) 52 (0, 0)) ∧ w'.heap[B + 1]? = some (.cells (oLog 0 0 (.slice none 0 0)) 52 (0, 0)) ∧ Below B w w') :=
    fun w' hh => ⟨(hh.block _ (lt_of_block hc)).trans hc, (hh.block _ (lt_of_block hd)).trans hd, hb0'.trans (hh.mono (by omega))⟩
  have HFl : Hid (∀ w', Below W.heap.size W w' → Ents (fun k => k < B) w' (.slice ao es.length cap) es) := fun w' hb => hl2.frame (Plain.good _) (Agree.below hb)
  have HT := Lib.hid (wire_termAt base bt i _ es _ W hl2 hk hi1 hi2)
  have Hk := Lib.hid hk
  have Hsz := Lib.hid hsz
  have hb1 := hk.b0
  have hb2 := hk.b1
  have hln : es.length ≤ 2199023255552 := hk.n
  have hok := fun (hz : (termAt base bt es i).2 = 0) => termAt_ok hz
  have Hok := Lib.hid hok
  obtain ⟨u, hu⟩ := hide (termAt base bt es i)
  rw [hu.out] at HT Hok
  have hXd : (if u.2 = 0 then (⟨i, u.1, es.drop (i - base).toNat, 0⟩ : Cpt) else ⟨0, 0, [], u.2⟩) = X := by rw [← hX.out, compactOf, hu.out]
  have HXd := Lib.hid hXd
  obtain ⟨u1, u2⟩ := u
  simp only [] at HT Hok HXd
  have c0 := cell_n hc 0 (v := .int .i64 base) rfl
  have c1 := cell_n hc 1 (v := .int .i64 bt) rfl
  have c2 := cell_n hc 2 (v := .slice ao es.length cap) rfl
  clear h hk hc hd hb0' hsz hl2 hmax hok hXd
  go_enter Try.func41, Try.ntmps41
  go_upto_region 1 with fail
  rw [hW.out, hB.out]
  go_wp2_with fail
  refine HT.out.mono ?_
  rintro e w1 ⟨rfl, hb⟩
  have Hb := Lib.hid hb
  clear hb c0 c1 c2
  by_cases hz : u2 = 0
  case neg =>
    obtain rfl : (⟨0, 0, [], u2⟩ : Cpt) = X := by rw [← HXd.out, if_neg hz]
    have z0 : (u2 == 0) = false := beq_eq_false_iff_ne.2 hz
    have z1 : (u2 != 0) = true := bne_iff_ne.2 hz
    clear hz
    have y0 := Hx.out _ Hb.out
    have g0 := free_n y0.2.1 0
    have g1 := free_n y0.2.1 1
    have g2 := free_n y0.2.1 2
    have q0 := cell_n y0.2.1 0 (v := .int .i64 0) rfl
    have q1 := cell_n y0.2.1 1 (v := .int .i64 0) rfl
    have q2 := cell_n y0.2.1 2 (v := .slice none 0 0) rfl
    have HE9 := Lib.hid (setAll_at (xs := [.int .i64 0, .int .i64 0, .slice none 0 0]) y0.2.1 [.int .i64 0, .int .i64 0, .slice none 0 0] rfl)
    have HB9 := Lib.hid (setAll_below y0.2.2 (Nat.le_succ B) [.int .i64 0, .int .i64 0, .slice none 0 0])
    clear y0
    go_wp2_with fail
    change bodyPost _ _ _ Exit.ret _ (setAll w1 (B + 1) [.int .i64 0, .int .i64 0, .slice none 0 0])
    generalize setAll w1 (B + 1) [.int .i64 0, .int .i64 0, .slice none 0 0] = W9 at HE9 HB9 ⊢
    clear q0 q1 q2
    have q0 := cell_n HE9.out 0 (v := .int .i64 0) rfl
    have q1 := cell_n HE9.out 1 (v := .int .i64 0) rfl
    have q2 := cell_n HE9.out 2 (v := .slice none 0 0) rfl
    refine bodyPost_ret (by simp [results, Try.results41, go_sem, q0, q1, q2]; rfl) rfl ?_
    rw [← HP.out]
    exact ⟨_, rfl, World.ownsRow_nil _ _ _ _, by rw [hB.out]; exact HB9.out⟩
  case pos =>
  subst hz
  obtain ⟨hi3, hi4⟩ := Hok.out rfl
  obtain ⟨m, hm⟩ : ∃ m : Nat, i = base + (m : Int) := ⟨(i - base).toNat, by omega⟩
  subst hm
  have hml : m ≤ es.length := by omega
  obtain rfl : (⟨base + m, u1, es.drop m, 0⟩ : Cpt) = X := by rw [← HXd.out, if_pos rfl, show (base + (m : Int) - base).toNat = m from by omega]
  have x0 := Hx.out _ Hb.out
  have c0 := cell_n x0.1 0 (v := .int .i64 base) rfl
  have c2 := cell_n x0.1 2 (v := .slice ao es.length cap) rfl
  clear x0
  have hparts : ∃ av, Ents (fun k => k < B) w1 (.slice av (es.length - m) (cap - m)) (es.drop m) ∧ ((ao = none ∧ es.length - m = 0 ∧ cap - m = 0 ∧ m = 0 ∧ av = none) ∨ (∃ a, ao = some a ∧ ((cap = m ∧ av = some a) ∨ (cap ≠ m ∧ av = some (a.add (m * 4)))))) := by
    cases ao with
    | none =>
      obtain ⟨h1, h2⟩ := (HFl.out _ Hb.out).isNil
      have h3 : es.length = 0 := by rw [h1]; rfl
      refine ⟨none, ?_, Or.inl ⟨rfl, by omega, by omega, by omega, rfl⟩⟩
      rw [h1, List.drop_nil]
      exact ⟨none, cap - m, by simp, ⟨by simp, fun _ => by omega⟩, by simp, fun h => absurd rfl h⟩
    | some a =>
      obtain ⟨av, h1, h2⟩ := ents_from (HFl.out _ Hb.out) hml hcap
      exact ⟨av, h1, Or.inr ⟨a, rfl, h2⟩⟩
  obtain ⟨av, hpa, hav⟩ := hparts
  have HC1 := Lib.hid (clone_ents _ _ _ w1 hpa (by rw [List.length_drop]; omega))
  have hLl : (es.drop m).length = es.length - m := List.length_drop
  obtain ⟨L, hL⟩ := hide (es.drop m)
  rw [hL.out] at HC1 hLl
  have HLl := Lib.hid hLl
  have pm1 : (m : Int) ≤ (es.length : Int) := by omega
  have pm2 : (m : Int) ≤ (cap : Int) := by omega
  clear hLl hpa
  have p2 : base + (m : Int) - base = (m : Int) := by omega
  rcases hav with ⟨rfl, e1, e2, e3, rfl⟩ | ⟨a, rfl, ⟨hcm, rfl⟩ | ⟨hcm, rfl⟩⟩

  · rw [e1, e2] at HC1
    have E3 := Lib.hid e3
    have h4 : es.length = 0 := by omega
    have h5 : cap = 0 := by omega
    have hm0 : (m : Int) ≤ 0 := by omega
    clear e3
    go_wp2_with fail
    refine HC1.out.mono ?_
    rintro e w2 ⟨v', rfl, ho, hb2⟩
    obtain ⟨a9, c9, rfl⟩ := owns_slice ho
    have HO : Hid (OwnE (B + 2) w2 (.slice a9 L.length c9) L) := own_base ho (by rw [← Hsz.out]; exact Hb.out.size)
    have Hb2 := Lib.hid (Hb.out.trans (hb2.mono Hb.out.size))
    clear ho hb2 c0 c2
    have y0 := Hx.out _ Hb2.out
    have g0 := free_n y0.2.1 0
    have g1 := free_n y0.2.1 1
    have g2 := free_n y0.2.1 2
    have q0 := cell_n y0.2.1 0 (v := .int .i64 0) rfl
    have q1 := cell_n y0.2.1 1 (v := .int .i64 0) rfl
    have q2 := cell_n y0.2.1 2 (v := .slice none 0 0) rfl
    have HE9 := Lib.hid (setAll_at (xs := [.int .i64 0, .int .i64 0, .slice none 0 0]) y0.2.1 [.int .i64 (base + m), .int .i64 u1, .slice a9 L.length c9] rfl)
    have HB9 := Lib.hid (setAll_below y0.2.2 (Nat.le_succ B) [.int .i64 (base + m), .int .i64 u1, .slice a9 L.length c9])
    have HO9 : Hid (OwnE (B + 2) (setAll w2 (B + 1) [.int .i64 (base + m), .int .i64 u1, .slice a9 L.length c9]) (.slice a9 L.length c9) L) := own_up HO.out (Up.setAll _ w2 (by omega) _) (Nat.le_refl _)
    clear y0
    go_wp2_with fail
    change bodyPost _ _ _ Exit.ret _ (setAll w2 (B + 1) [.int .i64 (base + m), .int .i64 u1, .slice a9 L.length c9])
    generalize setAll w2 (B + 1) [.int .i64 (base + m), .int .i64 u1, .slice a9 L.length c9] = W9 at HE9 HB9 HO9 ⊢
    clear q0 q1 q2
    have q0 := cell_n HE9.out 0 (v := .int .i64 (base + m)) rfl
    have q1 := cell_n HE9.out 1 (v := .int .i64 u1) rfl
    have q2 := cell_n HE9.out 2 (v := .slice a9 L.length c9) rfl
    refine bodyPost_ret (by simp [results, Try.results41, go_sem, q0, q1, q2]; rfl) rfl ?_
    rw [← HP.out]
    refine ⟨_, rfl, ?_, by rw [hB.out]; exact HB9.out⟩
    show OwnE _ _ _ (es.drop m)
    rw [hL.out]
    exact own_base HO9.out (by rw [hB.out]; omega)
  · rw [show cap - m = 0 from by omega] at HC1
    go_wp2_with fail
    refine HC1.out.mono ?_
    rintro e w2 ⟨v', rfl, ho, hb2⟩
    obtain ⟨a9, c9, rfl⟩ := owns_slice ho
    have HO : Hid (OwnE (B + 2) w2 (.slice a9 L.length c9) L) := own_base ho (by rw [← Hsz.out]; exact Hb.out.size)
    have Hb2 := Lib.hid (Hb.out.trans (hb2.mono Hb.out.size))
    clear ho hb2 c0 c2
    have y0 := Hx.out _ Hb2.out
    have g0 := free_n y0.2.1 0
    have g1 := free_n y0.2.1 1
    have g2 := free_n y0.2.1 2
    have q0 := cell_n y0.2.1 0 (v := .int .i64 0) rfl
    have q1 := cell_n y0.2.1 1 (v := .int .i64 0) rfl
    have q2 := cell_n y0.2.1 2 (v := .slice none 0 0) rfl
    have HE9 := Lib.hid (setAll_at (xs := [.int .i64 0, .int .i64 0, .slice none 0 0]) y0.2.1 [.int .i64 (base + m), .int .i64 u1, .slice a9 L.length c9] rfl)
    have HB9 := Lib.hid (setAll_below y0.2.2 (Nat.le_succ B) [.int .i64 (base + m), .int .i64 u1, .slice a9 L.length c9])
    have HO9 : Hid (OwnE (B + 2) (setAll w2 (B + 1) [.int .i64 (base + m), .int .i64 u1, .slice a9 L.length c9]) (.slice a9 L.length c9) L) := own_up HO.out (Up.setAll _ w2 (by omega) _) (Nat.le_refl _)
    clear y0
    go_wp2_with fail
    change bodyPost _ _ _ Exit.ret _ (setAll w2 (B + 1) [.int .i64 (base + m), .int .i64 u1, .slice a9 L.length c9])
    generalize setAll w2 (B + 1) [.int .i64 (base + m), .int .i64 u1, .slice a9 L.length c9] = W9 at HE9 HB9 HO9 ⊢
    clear q0 q1 q2
    have q0 := cell_n HE9.out 0 (v := .int .i64 (base + m)) rfl
    have q1 := cell_n HE9.out 1 (v := .int .i64 u1) rfl
    have q2 := cell_n HE9.out 2 (v := .slice a9 L.length c9) rfl
    refine bodyPost_ret (by simp [results, Try.results41, go_sem, q0, q1, q2]; rfl) rfl ?_
    rw [← HP.out]
    refine ⟨_, rfl, ?_, by rw [hB.out]; exact HB9.out⟩
    show OwnE _ _ _ (es.drop m)
    rw [hL.out]
    exact own_base HO9.out (by rw [hB.out]; omega)
  · go_wp2_with fail
    refine HC1.out.mono ?_
    rintro e w2 ⟨v', rfl, ho, hb2⟩
    obtain ⟨a9, c9, rfl⟩ := owns_slice ho
    have HO : Hid (OwnE (B + 2) w2 (.slice a9 L.length c9) L) := own_base ho (by rw [← Hsz.out]; exact Hb.out.size)
    have Hb2 := Lib.hid (Hb.out.trans (hb2.mono Hb.out.size))
    clear ho hb2 c0 c2
    have y0 := Hx.out _ Hb2.out
    have g0 := free_n y0.2.1 0
    have g1 := free_n y0.2.1 1
    have g2 := free_n y0.2.1 2
    have q0 := cell_n y0.2.1 0 (v := .int .i64 0) rfl
    have q1 := cell_n y0.2.1 1 (v := .int .i64 0) rfl
    have q2 := cell_n y0.2.1 2 (v := .slice none 0 0) rfl
    have HE9 := Lib.hid (setAll_at (xs := [.int .i64 0, .int .i64 0, .slice none 0 0]) y0.2.1 [.int .i64 (base + m), .int .i64 u1, .slice a9 L.length c9] rfl)
    have HB9 := Lib.hid (setAll_below y0.2.2 (Nat.le_succ B) [.int .i64 (base + m), .int .i64 u1, .slice a9 L.length c9])
    have HO9 : Hid (OwnE (B + 2) (setAll w2 (B + 1) [.int .i64 (base + m), .int .i64 u1, .slice a9 L.length c9]) (.slice a9 L.length c9) L) := own_up HO.out (Up.setAll _ w2 (by omega) _) (Nat.le_refl _)
    clear y0
    go_wp2_with fail
    change bodyPost _ _ _ Exit.ret _ (setAll w2 (B + 1) [.int .i64 (base + m), .int .i64 u1, .slice a9 L.length c9])
    generalize setAll w2 (B + 1) [.int .i64 (base + m), .int .i64 u1, .slice a9 L.length c9] = W9 at HE9 HB9 HO9 ⊢
    clear q0 q1 q2
    have q0 := cell_n HE9.out 0 (v := .int .i64 (base + m)) rfl
    have q1 := cell_n HE9.out 1 (v := .int .i64 u1) rfl
    have q2 := cell_n HE9.out 2 (v := .slice a9 L.length c9) rfl
    refine bodyPost_ret (by simp [results, Try.results41, go_sem, q0, q1, q2]; rfl) rfl ?_
    rw [← HP.out]
    refine ⟨_, rfl, ?_, by rw [hB.out]; exact HB9.out⟩
    show OwnE _ _ _ (es.drop m)
    rw [hL.out]
    exact own_base HO9.out (by rw [hB.out]; omega)
theorem take_drop_step (es : List EntP) (m k : Nat) (hk : k < es.length) (hm : m ≤ k) : (es.take (k + 1)).drop m = (es.take k).drop m ++ [es[k]] := by
  rw [List.take_succ_eq_append_getElem hk, List.drop_append_of_le_length (by rw [List.length_take]; omega)]
theorem take_drop_none (es : List EntP) (m k : Nat) (hm : k ≤ m) : (es.take k).drop m = [] := List.drop_eq_nil_of_le (by rw [List.length_take]; omega)

set_option maxHeartbeats 4000000 in
set_option maxRecDepth 100000 in
theorem ref_compact (base bt i : Int) (ev : Value) (es : List EntP) (F : Nat → Prop) (w : World) (h : Ents F w ev es) (hk : Ok base es) (hi1 : -4398046511104 ≤ i) (hi2 : i ≤ 4398046511104) :
    Calls Try.prog 42 #[vLog base bt ev, .int .i64 i] w fun e w' => ∃ v', e = .returned (.tuple #[vLog (compactOf base bt es i).base (compactOf base bt es i).bt v', .int .i64 (compactOf base bt es i).err]) ∧ OwnE w.heap.size w' v' (compactOf base bt es i).es ∧ Below w.heap.size w w' := by
  obtain ⟨X, hX⟩ := hide (compactOf base bt es i)
  rw [hX.out]
  obtain ⟨post, HP⟩ := hide (fun (e : Ending) (w' : World) => ∃ v', e = .returned (.tuple #[vLog X.base X.bt v', .int .i64 X.err]) ∧ OwnE w.heap.size w' v' X.es ∧ Below w.heap.size w w')
  rw [HP.out]
  obtain ⟨ao, cap, rfl, hcap, hmax⟩ := h.slice
  obtain ⟨W, hW⟩ := hide ((w.alloc (.cells (oLog base bt (.slice ao es.length cap)) 52)).alloc (.cells (oLog 0 0 (.slice none 0 0)) 52))
  have hb0' : Below w.heap.size w W := by rw [← hW.out]; exact ((Below.refl _ _).alloc (Nat.le_refl _) _).alloc (by simp) _
  have hl2 := (h.weak (G := fun k => k < w.heap.size) (Plain.good _) (fun k _ h => h)).frame (Plain.good _) (Agree.below hb0')
  obtain ⟨B, hB⟩ := hide w.heap.size
  have hc : W.heap[B]? = some (.cells (oLog base bt (.slice ao es.length cap)) 52 (0, 0)) := by rw [← hW.out, ← hB.out]; exact (hp_past _ _ (by simp)).trans (hp_at _ _ rfl)
  have hd : W.heap[B + 1]? = some (.cells (oLog 0 0 (.slice none 0 0)) 52 (0, 0)) := by rw [← hW.out, ← hB.out]; exact hp_at _ _ (by simp)
  have hsz : W.heap.size = B + 2 := by rw [← hW.out, ← hB.out]; simp
  rw [hB.out] at hb0' hl2
  have Hx : Hid (∀ w', Below W.heap.size W w' → w'.heap[B]? = some (.cells (oLog base bt (.slice ao es.length cap)) 52 (0, 0)) ∧ w'.heap[B + 1]? = some (.cells (oLog 0 0 (.slice none 0 0)) 52 (0, 0)) ∧ Below B w w') :=
    fun w' hh => ⟨(hh.block _ (lt_of_block hc)).trans hc, (hh.block _ (lt_of_block hd)).trans hd, hb0'.trans (hh.mono (by omega))⟩
  have HFl : Hid (∀ w', Below W.heap.size W w' → Ents (fun k => k < B) w' (.slice ao es.length cap) es) := fun w' hb => hl2.frame (Plain.good _) (Agree.below hb)
  have HT := Lib.hid (ref_termAt base bt i _ es _ W hl2 hk hi1 hi2)
  have Hk := Lib.hid hk
  have Hsz := Lib.hid hsz
  have hb1 := hk.b0
  have hb2 := hk.b1
  have hln : es.length ≤ 2199023255552 := hk.n
  have hok := fun (hz : (termAt base bt es i).2 = 0) => termAt_ok hz
  have Hok := Lib.hid hok
  obtain ⟨u, hu⟩ := hide (termAt base bt es i)
  rw [hu.out] at HT Hok
  have hXd : (if u.2 = 0 then (⟨i, u.1, es.drop (i - base).toNat, 0⟩ : Cpt) else ⟨0, 0, [], u.2⟩) = X := by rw [← hX.out, compactOf, hu.out]
  have HXd := Lib.hid hXd
  obtain ⟨u1, u2⟩ := u
  simp only [] at HT Hok HXd
  have c0 := cell_n hc 0 (v := .int .i64 base) rfl
  have c1 := cell_n hc 1 (v := .int .i64 bt) rfl
  have c2 := cell_n hc 2 (v := .slice ao es.length cap) rfl
  clear h hk hc hd hb0' hsz hl2 hmax hok hXd
  go_enter Try.func42, Try.ntmps42
  go_upto_region 1 with fail
  rw [hW.out, hB.out]
  go_wp2_with fail
  refine HT.out.mono ?_
  rintro e w1 ⟨rfl, hb⟩
  have Hb := Lib.hid hb
  clear hb c0 c1 c2
  by_cases hz : u2 = 0
  case neg =>
    obtain rfl : (⟨0, 0, [], u2⟩ : Cpt) = X := by rw [← HXd.out, if_neg hz]
    have z0 : (u2 == 0) = false := beq_eq_false_iff_ne.2 hz
    have z1 : (u2 != 0) = true := bne_iff_ne.2 hz
    clear hz
    have y0 := Hx.out _ Hb.out
    have g0 := free_n y0.2.1 0
    have g1 := free_n y0.2.1 1
    have g2 := free_n y0.2.1 2
    have q0 := cell_n y0.2.1 0 (v := .int .i64 0) rfl
    have q1 := cell_n y0.2.1 1 (v := .int .i64 0) rfl
    have q2 := cell_n y0.2.1 2 (v := .slice none 0 0) rfl
    have HE9 := Lib.hid (setAll_at (xs := [.int .i64 0, .int .i64 0, .slice none 0 0]) y0.2.1 [.int .i64 0, .int .i64 0, .slice none 0 0] rfl)
    have HB9 := Lib.hid (setAll_below y0.2.2 (Nat.le_succ B) [.int .i64 0, .int .i64 0, .slice none 0 0])
    clear y0
    go_wp2_with fail
    change bodyPost _ _ _ Exit.ret _ (setAll w1 (B + 1) [.int .i64 0, .int .i64 0, .slice none 0 0])
    generalize setAll w1 (B + 1) [.int .i64 0, .int .i64 0, .slice none 0 0] = W9 at HE9 HB9 ⊢
    clear q0 q1 q2
    have q0 := cell_n HE9.out 0 (v := .int .i64 0) rfl
    have q1 := cell_n HE9.out 1 (v := .int .i64 0) rfl
    have q2 := cell_n HE9.out 2 (v := .slice none 0 0) rfl
    refine bodyPost_ret (by simp [results, Try.results42, go_sem, q0, q1, q2]; rfl) rfl ?_
    rw [← HP.out]
    exact ⟨_, rfl, World.ownsRow_nil _ _ _ _, by rw [hB.out]; exact HB9.out⟩
  case pos =>
  subst hz
  obtain ⟨hi3, hi4⟩ := Hok.out rfl
  obtain ⟨m, hm⟩ : ∃ m : Nat, i = base + (m : Int) := ⟨(i - base).toNat, by omega⟩
  subst hm
  have hml : m ≤ es.length := by omega
  obtain rfl : (⟨base + m, u1, es.drop m, 0⟩ : Cpt) = X := by rw [← HXd.out, if_pos rfl, show (base + (m : Int) - base).toNat = m from by omega]
  have hBw : B + 2 ≤ w1.heap.size := by rw [← Hsz.out]; exact Hb.out.size
  obtain ⟨V, hV⟩ := hide (w1.alloc (.cells (oLog (base + m) u1 (.slice none 0 0)) 52))
  have hC0 : V.heap[w1.heap.size]? = some (.cells (oLog (base + m) u1 (.slice none 0 0)) 52 (0, 0)) := by rw [← hV.out]; exact hp_at _ _ rfl
  have hbV : Below W.heap.size W V := by rw [← hV.out]; exact Hb.out.alloc Hb.out.size _
  obtain ⟨C, hC⟩ := hide w1.heap.size
  rw [hC.out] at hC0 hBw
  have HC0 := Lib.hid hC0
  have HbV := Lib.hid hbV
  clear hC0 hbV
  go_upto_region 5 with fail
  rw [hV.out, hC.out]
  go_wp2_with fail
  go_loopw [9] (fun i wr => ∃ (k n : Nat) (av : Option Addr) (cv : Nat), i = .int .i64 k ∧ k ≤ es.length ∧ Hid (((es.take k).drop m).length = n) ∧ Hid (wr.heap[C]? = some (.cells (oLog (base + m) u1 (.slice av n cv)) 52 (0, 0))) ∧ Hid (wr.ownsRow (C + 1) 56 4 (.slice av n cv) n (((es.take k).drop m).flatMap rowE)) ∧ Hid (Below W.heap.size W wr)) (fun i _ => es.length - (intOf i).toNat)
  case atStart => exact ⟨0, 0, none, 0, rfl, Nat.zero_le _, by show _ = _; simp, HC0, by rw [take_drop_none _ _ _ (Nat.zero_le _)]; exact World.ownsRow_nil _ _ _ _, HbV⟩
  case round =>
    obtain ⟨k, n, av, cv, rfl, hk, hn, hlog, hown, hb⟩ := hrel
    have x0 := Hx.out _ hb.out
    have c2 := cell_n x0.1 2 (v := .slice ao es.length cap) rfl
    clear x0
    by_cases hlt : k < es.length
    · have hidx : es[k].idx = base + 1 + k := Hk.out.at_ k hlt
      obtain ⟨b, off, us, rfl, hbB, _, hus, hcs⟩ := (HFl.out _ hb.out).at hlt
      have hst := take_drop_step es m k hlt
      obtain ⟨x, hx⟩ := hide es[k]
      rw [hx.out] at hus hidx hst
      have e1 : us = rowE x := hus
      subst e1
      have d0 := hcs 0 _ rfl
      have d1 := hcs 1 _ rfl
      have d2 := hcs 2 _ rfl
      have d3 := hcs 3 _ rfl
      rw [Nat.add_zero] at d0
      rw [hidx] at d0
      have pk0 : (0 : Int) ≤ (k : Int) := by omega
      have pk1 : (k : Int) < (es.length : Int) := by omega
      have hrow : rowE x = [Value.int .i64 (base + 1 + k), .int .i64 x.trm, .int .i64 x.knd, str x.dat] := by rw [← hidx]
      have Hrow := Lib.hid hrow
      have Hst := Lib.hid hst
      have Hidx := Lib.hid hidx
      clear hcs hus hst hrow hidx
      by_cases hmk : m ≤ k
      · have t1 : decide (base + (m : Int) < base + 1 + (k : Int)) = true := decide_eq_true (by omega)
        have hCb : b < B := hbB
        obtain ⟨cs, hcs⟩ : ∃ cs : Array Value, cs = #[Value.int .i64 (base + 1 + k), .int .i64 x.trm, .int .i64 x.knd, str x.dat] := ⟨_, rfl⟩
        have k2 := cell_n hlog.out 2 (v := .slice av n cv) rfl
        have g2 := free_n hlog.out 2
        have hCl := lt_of_block hlog.out
        have hsrc := src_new (P := Try.prog) (w := wr.drew) (e := 56) (e' := 56) (tx := 50) (size := 4) (n := 1) Try.underlying50 #[Value.int .i64 (base + 1 + k), .int .i64 x.trm, .int .i64 x.knd, str x.dat] 1 rfl (by intro u hu; simp at hu; rcases hu with hu | hu | hu | hu <;> (subst hu; rfl))
        have hnl : n ≤ es.length := by have := hn.out; rw [List.length_drop, List.length_take] at this; omega
        have Hsrc := Lib.hid hsrc
        have Hown1 := Lib.hid ((World.ownsRow.drew hown.out).alloc (.cells #[Value.int .i64 (base + 1 + k), .int .i64 x.trm, .int .i64 x.knd, str x.dat] 56))
        clear hsrc hcs
        go_upto_region 9 with fail
        have HbA : Hid (Below W.heap.size W (wr.drew.alloc (.cells #[Value.int .i64 (base + 1 + k), .int .i64 x.trm, .int .i64 x.knd, str x.dat] 56))) := hb.out.drew.alloc hb.out.size _
        have c2' : wr.drew.cell? ⟨B, 2, none⟩ = some (.slice (some ⟨b, off, none⟩) es.length cap) := c2
        have k2' : wr.drew.cell? ⟨C, 2, none⟩ = some (.slice av n cv) := k2
        have d0' : wr.drew.cell? ⟨b, off + k * 4, none⟩ = some (.int .i64 (base + 1 + k)) := d0
        have d1' : wr.drew.cell? ⟨b, off + k * 4 + 1, none⟩ = some (.int .i64 x.trm) := d1
        have d2' : wr.drew.cell? ⟨b, off + k * 4 + 2, none⟩ = some (.int .i64 x.knd) := d2
        have d3' : wr.drew.cell? ⟨b, off + k * 4 + 3, none⟩ = some (str x.dat) := d3
        have hal : ∀ (a : Addr) (u : Value), wr.drew.cell? a = some u → (wr.drew.alloc (.cells #[Value.int .i64 (base + 1 + k), .int .i64 x.trm, .int .i64 x.knd, str x.dat] 56)).cell? a = some u := fun a u hu => by rw [World.cell?_alloc_lt _ _ _ (World.block_lt_of_cell? _ _ hu)]; exact hu
        have hA := And.intro (hal _ _ k2') (And.intro (hal _ _ c2') (And.intro (hal _ _ d0') (And.intro (hal _ _ d1') (And.intro (hal _ _ d2') (hal _ _ d3')))))
        clear hal
        obtain ⟨kA, cA, _, _, _, _⟩ := hA
        go_region_law ((refine step_append_src (by rfl) _ _ 50 50 (by rfl) (C + 1) 56 _ 4 40 Try.underlying50 info_ent rfl _ _ _ (by rfl) Hown1.out _ _ _ (by rfl) Hsrc.out (by unfold maxLen; omega) (by omega) (by simp; omega) ?_; intro v9 w9 ho9 hg9; obtain ⟨a9, c9, rfl⟩ := owns_slice ho9; have hCw := (hg9.block C (by simp; omega) (own_other Hown1.out (Nat.lt_succ_self C))).trans ((hp_past _ _ (by simp; omega)).trans hlog.out); have m2 := cell_n hCw 2 (v := .slice av n cv) rfl; have n2 := free_n hCw 2; have Ho9 := Lib.hid ho9; have Hb9 : Hid (Below W.heap.size W w9) := HbA.out.trans (below_own Hown1.out hg9 (by have := Hsz.out; omega) HbA.out.size); have HCw := Lib.hid hCw; clear ho9 hg9 hCw))
        all_goals
          clear kA cA k2' c2' d0' d1' d2' d3' d0 d1 d2 d3 k2 g2 c2
          go_wp2_with fail
          go_roundw
          case rel =>
            refine ⟨k + 1, n + 1, a9, c9, by go_num, hlt, ?_, ?_, ?_, Hb9.out.setCell (by have := Hsz.out; show _ ≤ C; omega) _⟩
            · show _ = _
              rw [Hst.out hmk, List.length_append, hn.out]; rfl
            · show _ = _
              rw [heap_setCell, if_pos rfl, HCw.out]; simp [storeIn]
            · show World.ownsRow _ _ _ _ _ _ _
              refine own_up ?_ (Up.setCell (C + 1) w9 (a := ⟨C, 2, none⟩) (Nat.lt_succ_self C) _) (Nat.le_refl _)
              rw [Hst.out hmk, List.flatMap_append, show [x].flatMap rowE = rowE x from by simp, Hrow.out]
              exact Ho9.out
          case measure => simp [intOf]; omega
      · have t1 : decide (base + (m : Int) < base + 1 + (k : Int)) = false := decide_eq_false (by omega)
        have hn1 : Hid (((es.take (k + 1)).drop m).length = n) := by
          show _ = _
          rw [← hn.out, take_drop_none _ _ _ (by omega), take_drop_none _ _ _ (by omega)]
        have hl1 : Hid (wr.ownsRow (C + 1) 56 4 (.slice av n cv) n (((es.take (k + 1)).drop m).flatMap rowE)) := by
          show World.ownsRow _ _ _ _ _ _ _
          have h9 := hown.out
          rw [take_drop_none _ _ _ (by omega)] at h9 ⊢
          exact h9
        go_wp2_with fail
        go_roundw
        case rel => exact ⟨k + 1, n, av, cv, by go_num, hlt, hn1, hlog, hl1, hb⟩
        case measure => simp [intOf]; omega
    · have hkn : k = es.length := by omega
      have hle : es.take k = es := List.take_of_length_le (by omega)
      have hown2 := hown.out
      have hn2 := hn.out
      rw [hle] at hown2 hn2
      have Hn2 := Lib.hid hn2
      have k0 := cell_n hlog.out 0 (v := .int .i64 (base + m)) rfl
      have k1 := cell_n hlog.out 1 (v := .int .i64 u1) rfl
      have k2 := cell_n hlog.out 2 (v := .slice av n cv) rfl

      have y0 := Hx.out _ hb.out
      have g0 := free_n y0.2.1 0
      have g1 := free_n y0.2.1 1
      have g2 := free_n y0.2.1 2
      have q0 := cell_n y0.2.1 0 (v := .int .i64 0) rfl
      have q1 := cell_n y0.2.1 1 (v := .int .i64 0) rfl
      have q2 := cell_n y0.2.1 2 (v := .slice none 0 0) rfl
      have HE9 := Lib.hid (setAll_at (xs := [.int .i64 0, .int .i64 0, .slice none 0 0]) y0.2.1 [.int .i64 (base + m), .int .i64 u1, .slice av n cv] rfl)
      have HB9 := Lib.hid (setAll_below y0.2.2 (Nat.le_succ B) [.int .i64 (base + m), .int .i64 u1, .slice av n cv])
      have HO9 : Hid ((setAll wr (B + 1) [.int .i64 (base + m), .int .i64 u1, .slice av n cv]).ownsRow (C + 1) 56 4 (.slice av n cv) n ((es.drop m).flatMap rowE)) := own_up hown2 (Up.setAll _ wr (by omega) _) (Nat.le_refl _)
      clear y0 hown2 hn2 hle hkn
      go_wp2_with fail
      change bodyPost _ _ _ Exit.ret _ (setAll wr (B + 1) [.int .i64 (base + m), .int .i64 u1, .slice av n cv])
      generalize setAll wr (B + 1) [.int .i64 (base + m), .int .i64 u1, .slice av n cv] = W9 at HE9 HB9 HO9 ⊢
      clear q0 q1 q2
      have q0 := cell_n HE9.out 0 (v := .int .i64 (base + m)) rfl
      have q1 := cell_n HE9.out 1 (v := .int .i64 u1) rfl
      have q2 := cell_n HE9.out 2 (v := .slice av n cv) rfl
      refine bodyPost_ret (by simp [results, Try.results42, go_sem, q0, q1, q2]; rfl) rfl ?_
      rw [← HP.out]
      refine ⟨_, rfl, ?_, by rw [hB.out]; exact HB9.out⟩
      show World.ownsRow _ _ _ _ _ _ _
      rw [Hn2.out]
      exact own_base HO9.out (by rw [hB.out]; omega)
end Go.Proofs.Ytlknkhmhdmpdkaa
