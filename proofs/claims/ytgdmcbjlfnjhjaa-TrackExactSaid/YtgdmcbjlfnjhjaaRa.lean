/-
  Logs: the last index, an index's term, where a leader is to look: both ways.
-/
import Derived.Test.YtgdmcbjlfnjhjaaLg
import Derived.Test.YtgdmcbjlfnjhjaaCx
import Derived.WalkKit
import Derived.WalkSpells
import Derived.WalkLawsBesides
import Derived.Lib.Hide
import Derived.Deep.DeepCutAuto
import Derived.Deep.QuietTactic
import Derived.BigQuiet
import Derived.Deep.CutBlock
import Derived.Deep.RegionWith
namespace Go.Proofs.Ytgdmcbjlfnjhjaa
open Go.RowKit Wm Mm Lg
set_option linter.unusedVariables false
set_option linter.unusedSimpArgs false

abbrev vLog (base bt : Int) (ev : Value) : Value := .agg #[.int .i64 base, .int .i64 bt, ev]
abbrev oLog (base bt : Int) (ev : Value) : Array Value := #[.int .i64 base, .int .i64 bt, ev]
theorem below_drew' {B : Nat} {w w' : World} (h : Below B w w') (n : Nat) : Below B w (w'.drewN n) := ⟨h.os, h.tape, h.output, h.size, h.block⟩
theorem lastT_cons {bt : Int} {es : List EntP} {m : Nat} (h : es.length = m + 1) : lastT bt es = (es[m]'(by omega)).trm := by
  unfold lastT
  have e : es.length - 1 = m := by omega
  rw [List.getLast?_eq_getElem?, e, List.getElem?_eq_getElem (by omega)]

set_option maxHeartbeats 1000000 in
theorem wire_last (base bt : Int) (ev : Value) (es : List EntP) (F : Nat → Prop) (w : World) (h : Ents F w ev es) (hk : Ok base es) :
    Calls Try.prog 59 #[vLog base bt ev] w fun e w' => e = .returned (.tuple #[.int .i64 (base + es.length), .int .i64 (lastT bt es)]) ∧ Below w.heap.size w w' := by
  obtain ⟨ao, cap, rfl, hcap, hmax⟩ := h.slice
  obtain ⟨W, hW⟩ := hide (w.alloc (.cells (oLog base bt (.slice ao es.length cap)) 33))
  have hc : W.heap[w.heap.size]? = some (.cells (oLog base bt (.slice ao es.length cap)) 33 (0, 0)) := by rw [← hW.out]; exact hp_at _ _ rfl
  have hb0 : Below w.heap.size w W := by rw [← hW.out]; exact (Below.refl _ _).alloc (Nat.le_refl _) _
  have h2 := h.frame (Plain.good _) (Agree.below hb0)
  obtain ⟨B, hB⟩ := hide w.heap.size
  rw [hB.out] at hc
  have c0 := cell_n hc 0 (v := .int .i64 base) rfl
  have c1 := cell_n hc 1 (v := .int .i64 bt) rfl
  have Hb0 := Lib.hid hb0
  have Hk := Lib.hid hk
  cases hl : es.length with
  | zero =>
    have e1 : es = [] := List.eq_nil_of_length_eq_zero hl
    rw [hl] at hc hW
    subst e1
    have c2 := cell_n hc 2 (v := .slice ao 0 cap) rfl
    clear hc h h2 hb0 hk hl hcap hmax
    go_enter Try.func59, Try.ntmps59
    go_upto_region 1 with fail
    rw [hW.out, hB.out]
    go_wp2_with (go_quiet (fail))
    go_ret2
    exact ⟨by simp [lastT], below_drew' Hb0.out _⟩
  | succ m =>
    have hm : m < es.length := by omega
    rw [hl] at h2 hc hW
    obtain ⟨b, off, us, rfl, _, _, hus, hcs⟩ := h2.at hm
    have hi := hk.at_ m hm
    have ht := lastT_cons (bt := bt) hl
    obtain ⟨x, hx⟩ := hide es[m]
    rw [hx.out] at hus hi ht
    have hus' : us = rowE x := hus
    subst hus'
    have d0 := hcs 0 _ rfl
    have d1 := hcs 1 _ rfl
    rw [Nat.add_zero] at d0
    have c2 := cell_n hc 2 (v := .slice (some ⟨b, off, none⟩) (m + 1) cap) rfl
    have Hi := Lib.hid hi
    have Ht := Lib.hid ht
    have Hl := Lib.hid hl
    have hm2 : m + 1 ≤ 9223372036854775807 := by omega
    have p1 : (0 : Int) ≤ (m : Int) := by omega
    have p2 : (m : Int) < ((m + 1 : Nat) : Int) := by omega
    have p3 : ((m + 1 : Nat) : Int) - 1 = (m : Int) := by omega
    clear hc h h2 hb0 hk hl hcap hmax hus hcs hi ht
    go_enter Try.func59, Try.ntmps59
    go_upto_region 1 with fail
    rw [hW.out, hB.out]
    go_wp2_with (go_quiet (fail))
    go_ret2
    exact ⟨by rw [Hi.out, Ht.out, show base + ((m + 1 : Nat) : Int) = base + 1 + (m : Int) from by omega]; rfl, below_drew' Hb0.out _⟩

/-- a log's struct in a block of its own, that stays -/
theorem logKept {w W : World} {B : Nat} {cs : Array Value} {T : TypeId} (hc : W.heap[B]? = some (.cells cs T (0, 0))) : ∀ w', Below W.heap.size W w' → w'.heap[B]? = some (.cells cs T (0, 0)) := fun w' h => (h.block _ (lt_of_block hc)).trans hc

set_option maxHeartbeats 1000000 in
theorem wire_termAt (base bt i : Int) (ev : Value) (es : List EntP) (F : Nat → Prop) (w : World) (h : Ents F w ev es) (hk : Ok base es) (hi1 : -4398046511104 ≤ i) (hi2 : i ≤ 4398046511104) :
    Calls Try.prog 60 #[vLog base bt ev, .int .i64 i] w fun e w' => e = .returned (.tuple #[.int .i64 (termAt base bt es i).1, .int .i64 (termAt base bt es i).2]) ∧ Below w.heap.size w w' := by
  obtain ⟨ao, cap, rfl, hcap, hmax⟩ := h.slice
  obtain ⟨W, hW⟩ := hide (w.alloc (.cells (oLog base bt (.slice ao es.length cap)) 33))
  have hc : W.heap[w.heap.size]? = some (.cells (oLog base bt (.slice ao es.length cap)) 33 (0, 0)) := by rw [← hW.out]; exact hp_at _ _ rfl
  have hb0 : Below w.heap.size w W := by rw [← hW.out]; exact (Below.refl _ _).alloc (Nat.le_refl _) _
  have h2 := h.frame (Plain.good _) (Agree.below hb0)
  have HL := Lib.hid (wire_last base bt _ es F W h2 hk)
  have H2 := Lib.hid h2
  obtain ⟨B, hB⟩ := hide w.heap.size
  rw [hB.out] at hc
  have Hx := Lib.hid (logKept (w := w) hc)
  have c0 := cell_n hc 0 (v := .int .i64 base) rfl
  have c1 := cell_n hc 1 (v := .int .i64 bt) rfl
  have c2 := cell_n hc 2 (v := .slice ao es.length cap) rfl
  have Hb0 := Lib.hid hb0
  have hb1 := hk.b0
  have hb2 := hk.b1
  have hbn := hk.n
  obtain ⟨t, ht⟩ := hide (termAt base bt es i)
  rw [ht.out]
  clear hc h h2 hb0 hk
  go_enter Try.func60, Try.ntmps60
  go_upto_region 1 with fail
  rw [hW.out, hB.out]
  go_wp2_with fail
  refine HL.out.mono ?_
  rintro e w1 ⟨rfl, hb⟩
  have x0 := Hx.out _ hb
  clear c0 c1 c2
  have c0 := cell_n x0 0 (v := .int .i64 base) rfl
  have c1 := cell_n x0 1 (v := .int .i64 bt) rfl
  have c2 := cell_n x0 2 (v := .slice ao es.length cap) rfl
  have Hb := Lib.hid (Hb0.out.trans (hb.mono Hb0.out.size))
  have H3 := Lib.hid (H2.out.frame (Plain.good _) (Agree.below hb))
  clear x0 hb
  by_cases a1 : i < base
  · obtain rfl : (0, 11) = t := by rw [← ht.out, termAt_low a1]
    go_wp2_with fail
    go_ret2
    exact ⟨rfl, Hb.out⟩
  by_cases a2 : base + es.length < i
  · obtain rfl : (0, 12) = t := by rw [← ht.out, termAt_far (by omega) a2]
    go_wp2_with fail
    go_ret2
    exact ⟨rfl, Hb.out⟩
  by_cases a3 : i = base
  · subst a3
    obtain rfl : (bt, 0) = t := by rw [← ht.out, termAt_base]
    go_wp2_with fail
    go_ret2
    exact ⟨rfl, Hb.out⟩
  · obtain ⟨hl, hta⟩ := termAt_in (bt := bt) (es := es) (i := i) (base := base) (by omega) (by omega)
    obtain ⟨b, off, us, rfl, _, _, hus, hcs⟩ := H3.out.at hl
    obtain ⟨n, hn⟩ : ∃ n : Nat, n = (i - base - 1).toNat := ⟨_, rfl⟩
    have hn2 : i - base - 1 = (n : Int) := by omega
    have hus' : us = rowE es[(i - base - 1).toNat] := hus
    subst hus'
    have d1 := hcs 1 _ rfl
    obtain ⟨x, hx⟩ := hide (es[(i - base - 1).toNat]).trm
    obtain rfl : (x, 0) = t := by rw [← ht.out, hta, hx.out]
    rw [hx.out, ← hn] at d1
    have t3 : (i == base) = false := beq_eq_false_iff_ne.2 a3
    have p1 : (n : Int) < (es.length : Int) := by omega
    have Hn2 := Lib.hid hn2
    have hi3 : i = base + 1 + (n : Int) := by omega
    subst hi3
    have p2 : base + 1 + (n : Int) - base = 1 + (n : Int) := by omega
    clear hcs hus hta hn a3 hn2
    go_wp2_with fail
    go_ret2
    exact ⟨rfl, Hb.out⟩
end Go.Proofs.Ytgdmcbjlfnjhjaa
