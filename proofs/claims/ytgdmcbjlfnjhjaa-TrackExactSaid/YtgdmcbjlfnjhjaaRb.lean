/-
  Logs: the document's small functions; where a leader is to look; is a log as far as another?
-/
import Derived.Test.YtgdmcbjlfnjhjaaRa
import Derived.Lib.QuietBelow
namespace Go.Proofs.Ytgdmcbjlfnjhjaa
open Go.RowKit Wm Mm Lg
set_option linter.unusedVariables false
set_option linter.unusedSimpArgs false

set_option maxHeartbeats 1000000 in
theorem ref_end (base bt : Int) (ev : Value) (es : List EntP) (F : Nat → Prop) (w : World) (h : Ents F w ev es) (hk : Ok base es) :
    Calls Try.prog 77 #[vLog base bt ev] w fun e w' => e = .returned (.int .i64 (base + es.length)) ∧ Below w.heap.size w w' := by
  obtain ⟨ao, cap, rfl, hcap, hmax⟩ := h.slice
  obtain ⟨W, hW⟩ := hide (w.alloc (.cells (oLog base bt (.slice ao es.length cap)) 33))
  have hc : W.heap[w.heap.size]? = some (.cells (oLog base bt (.slice ao es.length cap)) 33 (0, 0)) := by rw [← hW.out]; exact hp_at _ _ rfl
  have hb0 : Below w.heap.size w W := by rw [← hW.out]; exact (Below.refl _ _).alloc (Nat.le_refl _) _
  have h2 := h.frame (Plain.good _) (Agree.below hb0)
  have H2 := Lib.hid h2
  have HF : Hid (∀ w', Below W.heap.size W w' → Ents F w' (.slice ao es.length cap) es) := fun w' hb => h2.frame (Plain.good _) (Agree.below hb)
  obtain ⟨B, hB⟩ := hide w.heap.size
  rw [hB.out] at hc
  have Hx := Lib.hid (logKept (w := w) hc)
  have c0 := cell_n hc 0 (v := .int .i64 base) rfl
  have c1 := cell_n hc 1 (v := .int .i64 bt) rfl
  have c2 := cell_n hc 2 (v := .slice ao es.length cap) rfl
  have Hb0 := Lib.hid hb0
  have hb1 := hk.b0
  have hb2 := hk.b1
  have hbn := hk.n
  have Hk := Lib.hid hk
  clear hc h h2 hb0 hk
  go_enter Try.func77, Try.ntmps77
  go_upto_region 1 with fail
  rw [hW.out, hB.out]
  go_wp2_with fail
  go_ret
  exact ⟨rfl, Hb0.out⟩

set_option maxHeartbeats 1000000 in
theorem ref_termAt (base bt i : Int) (ev : Value) (es : List EntP) (F : Nat → Prop) (w : World) (h : Ents F w ev es) (hk : Ok base es) (hi1 : -4398046511104 ≤ i) (hi2 : i ≤ 4398046511104) :
    Calls Try.prog 78 #[vLog base bt ev, .int .i64 i] w fun e w' => e = .returned (.tuple #[.int .i64 (termAt base bt es i).1, .int .i64 (termAt base bt es i).2]) ∧ Below w.heap.size w w' := by
  obtain ⟨ao, cap, rfl, hcap, hmax⟩ := h.slice
  obtain ⟨W, hW⟩ := hide (w.alloc (.cells (oLog base bt (.slice ao es.length cap)) 33))
  have hc : W.heap[w.heap.size]? = some (.cells (oLog base bt (.slice ao es.length cap)) 33 (0, 0)) := by rw [← hW.out]; exact hp_at _ _ rfl
  have hb0 : Below w.heap.size w W := by rw [← hW.out]; exact (Below.refl _ _).alloc (Nat.le_refl _) _
  have h2 := h.frame (Plain.good _) (Agree.below hb0)
  have H2 := Lib.hid h2
  have HF : Hid (∀ w', Below W.heap.size W w' → Ents F w' (.slice ao es.length cap) es) := fun w' hb => h2.frame (Plain.good _) (Agree.below hb)
  have HE := Lib.hid (ref_end base bt _ es F W h2 hk)
  obtain ⟨B, hB⟩ := hide w.heap.size
  rw [hB.out] at hc
  have Hx := Lib.hid (logKept (w := w) hc)
  have c0 := cell_n hc 0 (v := .int .i64 base) rfl
  have c1 := cell_n hc 1 (v := .int .i64 bt) rfl
  have c2 := cell_n hc 2 (v := .slice ao es.length cap) rfl
  have Hb0 := Lib.hid hb0
  have hb1 := hk.b0
  have hb2 := hk.b1
  have hbn := hk.n
  have Hk := Lib.hid hk
  clear hc h h2 hb0 hk
  obtain ⟨t, ht⟩ := hide (termAt base bt es i)
  rw [ht.out]
  go_enter Try.func78, Try.ntmps78
  go_upto_region 1 with fail
  rw [hW.out, hB.out]
  by_cases a1 : i < base
  · obtain rfl : (0, 11) = t := by rw [← ht.out, termAt_low a1]
    go_wp2_with fail
    go_ret2
    exact ⟨rfl, Hb0.out⟩
  by_cases a3 : i = base
  · subst a3
    obtain rfl : (bt, 0) = t := by rw [← ht.out, termAt_base]
    go_wp2_with fail
    go_ret2
    exact ⟨rfl, Hb0.out⟩
  have t3 : (i == base) = false := beq_eq_false_iff_ne.2 a3
  have A3 := Lib.hid a3
  clear a3
  go_wp2_with fail
  refine HE.out.mono ?_
  rintro e w1 ⟨rfl, hb⟩
  have x0 := Hx.out _ hb
  clear c0 c1 c2
  have c0 := cell_n x0 0 (v := .int .i64 base) rfl
  have c1 := cell_n x0 1 (v := .int .i64 bt) rfl
  have c2 := cell_n x0 2 (v := .slice ao es.length cap) rfl
  clear x0
  have Hb := Lib.hid (Hb0.out.trans (hb.mono Hb0.out.size))
  have H3 := Lib.hid (HF.out _ hb)
  clear hb
  by_cases a2 : base + es.length < i
  · obtain rfl : (0, 12) = t := by rw [← ht.out, termAt_far (by omega) a2]
    go_wp2_with fail
    go_ret2
    exact ⟨rfl, Hb.out⟩
  · obtain ⟨hl, hta⟩ := termAt_in (bt := bt) (es := es) (i := i) (base := base) (by have := A3.out; omega) (by omega)
    obtain ⟨b, off, us, rfl, _, _, hus, hcs⟩ := H3.out.at hl
    obtain ⟨n, hn⟩ : ∃ n : Nat, n = (i - base - 1).toNat := ⟨_, rfl⟩
    have hn2 : i - base - 1 = (n : Int) := by have := A3.out; omega
    have hus' : us = rowE es[(i - base - 1).toNat] := hus
    subst hus'
    have d1 := hcs 1 _ rfl
    obtain ⟨x, hx⟩ := hide (es[(i - base - 1).toNat]).trm
    obtain rfl : (x, 0) = t := by rw [← ht.out, hta, hx.out]
    rw [hx.out, ← hn] at d1
    have p1 : (n : Int) < (es.length : Int) := by omega
    have Hn2 := Lib.hid hn2
    have hi3 : i = base + 1 + (n : Int) := by omega
    subst hi3
    have p2 : base + 1 + (n : Int) - base = 1 + (n : Int) := by omega
    clear hcs hus hta hn hn2
    go_wp2_with fail
    go_ret2
    exact ⟨rfl, Hb.out⟩

theorem lastT_at {base bt : Int} {es : List EntP} (hk : Ok base es) : termAt base bt es (base + es.length) = (lastT bt es, 0) := by
  cases hl : es.length with
  | zero =>
    obtain rfl : es = [] := List.eq_nil_of_length_eq_zero hl
    rw [show base + ((0 : Nat) : Int) = base from by simp, termAt_base]; rfl
  | succ m =>
    obtain ⟨h, e⟩ := termAt_in (base := base) (bt := bt) (es := es) (i := base + ((m + 1 : Nat) : Int)) (by omega) (by omega)
    rw [e, lastT_cons hl]
    have : (base + ((m + 1 : Nat) : Int) - base - 1).toNat = m := by omega
    simp only [this]
def freshB (base bt : Int) (es : List EntP) (index term : Int) : Bool := decide (lastT bt es < term) || (term == lastT bt es && decide (base + es.length ≤ index))
theorem down_stop {base bt : Int} {es : List EntP} {t : Int} : ∀ (n : Nat) (p : Int), ¬ (base + 1 < p ∧ (termAt base bt es (p - 1)).1 = t) → down base bt es t n p = p
  | 0, p, _ => rfl
  | n + 1, p, h => by rw [down, if_neg h]
theorem down_go {base bt : Int} {es : List EntP} {t : Int} {n : Nat} {p : Int} (h : base + 1 < p ∧ (termAt base bt es (p - 1)).1 = t) (hn : (p - base).toNat ≤ n) : down base bt es t n p = down base bt es t (n - 1) (p - 1) := by
  cases n with
  | zero => omega
  | succ n => rw [down, if_pos h]; rfl

end Go.Proofs.Ytgdmcbjlfnjhjaa
