/-
  Logs: the document's small functions; where a leader is to look; is a log as far as another?
-/
import Derived.Test.YtlknkhmhdmpdkaaRa
import Derived.Lib.QuietBelow
namespace Go.Proofs.Ytlknkhmhdmpdkaa
open Go.RowKit Wm Mm Lg
set_option linter.unusedVariables false
set_option linter.unusedSimpArgs false

set_option maxHeartbeats 1000000 in
theorem ref_end (base bt : Int) (ev : Value) (es : List EntP) (F : Nat → Prop) (w : World) (h : Ents F w ev es) (hk : Ok base es) :
    Calls Try.prog 116 #[vLog base bt ev] w fun e w' => e = .returned (.int .i64 (base + es.length)) ∧ Below w.heap.size w w' := by
  obtain ⟨ao, cap, rfl, hcap, hmax⟩ := h.slice
  obtain ⟨W, hW⟩ := hide (w.alloc (.cells (oLog base bt (.slice ao es.length cap)) 52))
  have hc : W.heap[w.heap.size]? = some (.cells (oLog base bt (.slice ao es.length cap)) 52 (0, 0)) := by rw [← hW.out]; exact hp_at _ _ rfl
  have hb0 : Below w.heap.size w W := by rw [← hW.out]; exact (Below.refl _ _).alloc (Nat.le_refl _) _
  have h2 := h.frame (Plain.good _) (Agree.below hb0)
  have H2 := Lib.hid h2
  have HF : Hid (∀ w', Below W.heap.size W w' → Ents F w' (.slice ao es.length cap) es) := fun w' hb => h2.frame (Plain.good _) (Agree.below hb)
  obtain ⟨B, hB⟩ := hide w.heap.size
  rw [hB.out] at hc
  have Hx := Lib.hid (logKept (w := w) hc)
  have c0 := cell_n hc 0 (v := .int .i64 base) rfl
  have c1 := cell_n hc 1 (v := .int .i64 bt) rfl
  have c2 := cell_n hc 2 (v := .slice ao es.length cap) rfl
  have Hb0 := Lib.hid hb0
  have hb1 := hk.b0
  have hb2 := hk.b1
  have hbn := hk.n
  have Hk := Lib.hid hk
  clear hc h h2 hb0 hk
  go_enter Try.func116, Try.ntmps116
  go_upto_region 1 with fail
  rw [hW.out, hB.out]
  go_wp2_with fail
  go_ret
  exact ⟨rfl, Hb0.out⟩

set_option maxHeartbeats 1000000 in
theorem ref_termAt (base bt i : Int) (ev : Value) (es : List EntP) (F : Nat → Prop) (w : World) (h : Ents F w ev es) (hk : Ok base es) (hi1 : -4398046511104 ≤ i) (hi2 : i ≤ 4398046511104) :
    Calls Try.prog 47 #[vLog base bt ev, .int .i64 i] w fun e w' => e = .returned (.tuple #[.int .i64 (termAt base bt es i).1, .int .i64 (termAt base bt es i).2]) ∧ Below w.heap.size w w' := by
  obtain ⟨ao, cap, rfl, hcap, hmax⟩ := h.slice
  obtain ⟨W, hW⟩ := hide (w.alloc (.cells (oLog base bt (.slice ao es.length cap)) 52))
  have hc : W.heap[w.heap.size]? = some (.cells (oLog base bt (.slice ao es.length cap)) 52 (0, 0)) := by rw [← hW.out]; exact hp_at _ _ rfl
  have hb0 : Below w.heap.size w W := by rw [← hW.out]; exact (Below.refl _ _).alloc (Nat.le_refl _) _
  have h2 := h.frame (Plain.good _) (Agree.below hb0)
  have H2 := Lib.hid h2
  have HF : Hid (∀ w', Below W.heap.size W w' → Ents F w' (.slice ao es.length cap) es) := fun w' hb => h2.frame (Plain.good _) (Agree.below hb)
  have HE := Lib.hid (ref_end base bt _ es F W h2 hk)
  obtain ⟨B, hB⟩ := hide w.heap.size
  rw [hB.out] at hc
  have Hx := Lib.hid (logKept (w := w) hc)
  have c0 := cell_n hc 0 (v := .int .i64 base) rfl
  have c1 := cell_n hc 1 (v := .int .i64 bt) rfl
  have c2 := cell_n hc 2 (v := .slice ao es.length cap) rfl
  have Hb0 := Lib.hid hb0
  have hb1 := hk.b0
  have hb2 := hk.b1
  have hbn := hk.n
  have Hk := Lib.hid hk
  clear hc h h2 hb0 hk
  obtain ⟨t, ht⟩ := hide (termAt base bt es i)
  rw [ht.out]
  go_enter Try.func47, Try.ntmps47
  go_upto_region 1 with fail
  rw [hW.out, hB.out]
  by_cases a1 : i < base
  · obtain rfl : (0, 11) = t := by rw [← ht.out, termAt_low a1]
    go_wp2_with fail
    go_ret2
    exact ⟨rfl, Hb0.out⟩
  by_cases a3 : i = base
  · subst a3
    obtain rfl : (bt, 0) = t := by rw [← ht.out, termAt_base]
    go_wp2_with fail
    go_ret2
    exact ⟨rfl, Hb0.out⟩
  have t3 : (i == base) = false := beq_eq_false_iff_ne.2 a3
  have A3 := Lib.hid a3
  clear a3
  go_wp2_with fail
  refine HE.out.mono ?_
  rintro e w1 ⟨rfl, hb⟩
  have x0 := Hx.out _ hb
  clear c0 c1 c2
  have c0 := cell_n x0 0 (v := .int .i64 base) rfl
  have c1 := cell_n x0 1 (v := .int .i64 bt) rfl
  have c2 := cell_n x0 2 (v := .slice ao es.length cap) rfl
  clear x0
  have Hb := Lib.hid (Hb0.out.trans (hb.mono Hb0.out.size))
  have H3 := Lib.hid (HF.out _ hb)
  clear hb
  by_cases a2 : base + es.length < i
  · obtain rfl : (0, 12) = t := by rw [← ht.out, termAt_far (by omega) a2]
    go_wp2_with fail
    go_ret2
    exact ⟨rfl, Hb.out⟩
  · obtain ⟨hl, hta⟩ := termAt_in (bt := bt) (es := es) (i := i) (base := base) (by have := A3.out; omega) (by omega)
    obtain ⟨b, off, us, rfl, _, _, hus, hcs⟩ := H3.out.at hl
    obtain ⟨n, hn⟩ : ∃ n : Nat, n = (i - base - 1).toNat := ⟨_, rfl⟩
    have hn2 : i - base - 1 = (n : Int) := by have := A3.out; omega
    have hus' : us = rowE es[(i - base - 1).toNat] := hus
    subst hus'
    have d1 := hcs 1 _ rfl
    obtain ⟨x, hx⟩ := hide (es[(i - base - 1).toNat]).trm
    obtain rfl : (x, 0) = t := by rw [← ht.out, hta, hx.out]
    rw [hx.out, ← hn] at d1
    have p1 : (n : Int) < (es.length : Int) := by omega
    have Hn2 := Lib.hid hn2
    have hi3 : i = base + 1 + (n : Int) := by omega
    subst hi3
    have p2 : base + 1 + (n : Int) - base = 1 + (n : Int) := by omega
    clear hcs hus hta hn hn2
    go_wp2_with fail
    go_ret2
    exact ⟨rfl, Hb.out⟩

theorem lastT_at {base bt : Int} {es : List EntP} (hk : Ok base es) : termAt base bt es (base + es.length) = (lastT bt es, 0) := by
  cases hl : es.length with
  | zero =>
    obtain rfl : es = [] := List.eq_nil_of_length_eq_zero hl
    rw [show base + ((0 : Nat) : Int) = base from by simp, termAt_base]; rfl
  | succ m =>
    obtain ⟨h, e⟩ := termAt_in (base := base) (bt := bt) (es := es) (i := base + ((m + 1 : Nat) : Int)) (by omega) (by omega)
    rw [e, lastT_cons hl]
    have : (base + ((m + 1 : Nat) : Int) - base - 1).toNat = m := by omega
    simp only [this]
set_option maxHeartbeats 1000000 in
theorem ref_last (base bt : Int) (ev : Value) (es : List EntP) (F : Nat → Prop) (w : World) (h : Ents F w ev es) (hk : Ok base es) :
    Calls Try.prog 49 #[vLog base bt ev] w fun e w' => e = .returned (.tuple #[.int .i64 (base + es.length), .int .i64 (lastT bt es)]) ∧ Below w.heap.size w w' := by
  obtain ⟨ao, cap, rfl, hcap, hmax⟩ := h.slice
  obtain ⟨W, hW⟩ := hide (w.alloc (.cells (oLog base bt (.slice ao es.length cap)) 52))
  have hc : W.heap[w.heap.size]? = some (.cells (oLog base bt (.slice ao es.length cap)) 52 (0, 0)) := by rw [← hW.out]; exact hp_at _ _ rfl
  have hb0 : Below w.heap.size w W := by rw [← hW.out]; exact (Below.refl _ _).alloc (Nat.le_refl _) _
  have h2 := h.frame (Plain.good _) (Agree.below hb0)
  have H2 := Lib.hid h2
  have HF : Hid (∀ w', Below W.heap.size W w' → Ents F w' (.slice ao es.length cap) es) := fun w' hb => h2.frame (Plain.good _) (Agree.below hb)
  have HE : Hid (∀ w', Below W.heap.size W w' → Calls Try.prog 116 #[vLog base bt (.slice ao es.length cap)] w' fun e w'' => e = .returned (.int .i64 (base + es.length)) ∧ Below w'.heap.size w' w'') := fun w' hb => ref_end base bt _ es F w' (HF.out w' hb) hk
  have HT : Hid (∀ w', Below W.heap.size W w' → Calls Try.prog 47 #[vLog base bt (.slice ao es.length cap), .int .i64 (base + es.length)] w' fun e w'' => e = .returned (.tuple #[.int .i64 (lastT bt es), .int .i64 0]) ∧ Below w'.heap.size w' w'') := fun w' hb => by
    have hb1 := hk.b0
    have hb2 := hk.b1
    have hbn := hk.n
    have := ref_termAt base bt (base + es.length) _ es F w' (HF.out w' hb) hk (by omega) (by omega)
    rwa [lastT_at hk] at this
  obtain ⟨B, hB⟩ := hide w.heap.size
  rw [hB.out] at hc
  have Hx := Lib.hid (logKept (w := w) hc)
  have c0 := cell_n hc 0 (v := .int .i64 base) rfl
  have c1 := cell_n hc 1 (v := .int .i64 bt) rfl
  have c2 := cell_n hc 2 (v := .slice ao es.length cap) rfl
  have Hb0 := Lib.hid hb0
  have hb1 := hk.b0
  have hb2 := hk.b1
  have hbn := hk.n
  have Hk := Lib.hid hk
  clear hc h h2 hb0 hk
  go_enter Try.func49, Try.ntmps49
  go_upto_region 1 with fail
  rw [hW.out, hB.out]
  have C0 := fun (dd : Nat) (os : Array Obj) => cell_regrown c0 dd os
  have C1 := fun (dd : Nat) (os : Array Obj) => cell_regrown c1 dd os
  have C2 := fun (dd : Nat) (os : Array Obj) => cell_regrown c2 dd os
  have HbW : Hid (∀ d os, Below W.heap.size W (Sort.grow (redrawn W d) os)) := fun d os => below_regrown W d os
  clear c0 c1 c2
  go_cut [4] (fun r wx => r = .int .i64 (lastT bt es) ∧ Hid (Below W.heap.size W wx))
  case first =>
    refine wp_region_quiet_below (by kernel_rfl) (by kernel_rfl) ?_
    repeat (go_big_quiet_step (first | (go_at_call 116; with_reducible refine Calls.regrown_of (HE.out _ (HbW.out _ _))) | (go_at_call 47; with_reducible refine Calls.regrown_of (HT.out _ (HbW.out _ _)))))
    refine wpQuiet_nil ?_
    intro _ hw'
    obtain ⟨⟨dq, osq⟩, hw''⟩ := hw'
    subst hw''
    go_wp2
    go_meet
    exact ⟨rfl, HbW.out dq osq⟩
  case rest =>
  obtain ⟨rfl, Hb2⟩ := hcut
  clear C0 C1 C2
  have x0 := Hx.out _ Hb2.out
  have c0 := cell_n x0 0 (v := .int .i64 base) rfl
  have c1 := cell_n x0 1 (v := .int .i64 bt) rfl
  have c2 := cell_n x0 2 (v := .slice ao es.length cap) rfl
  clear x0
  go_wp2_with fail
  refine (HE.out _ Hb2.out).mono ?_
  rintro e w3 ⟨rfl, hb⟩
  have Hb3 := Lib.hid (Hb0.out.trans ((Hb2.out.trans (hb.mono Hb2.out.size)).mono Hb0.out.size))
  clear hb c0 c1 c2
  go_wp2_with fail
  go_ret2
  exact ⟨rfl, Hb3.out⟩

def freshB (base bt : Int) (es : List EntP) (index term : Int) : Bool := decide (lastT bt es < term) || (term == lastT bt es && decide (base + es.length ≤ index))
set_option maxHeartbeats 1000000 in
theorem wire_fresh (base bt index term : Int) (ev : Value) (es : List EntP) (F : Nat → Prop) (w : World) (h : Ents F w ev es) (hk : Ok base es) :
    Calls Try.prog 50 #[vLog base bt ev, .int .i64 index, .int .i64 term] w fun e w' => e = .returned (.bool (freshB base bt es index term)) ∧ Below w.heap.size w w' := by
  obtain ⟨ao, cap, rfl, hcap, hmax⟩ := h.slice
  obtain ⟨W, hW⟩ := hide (w.alloc (.cells (oLog base bt (.slice ao es.length cap)) 52))
  have hc : W.heap[w.heap.size]? = some (.cells (oLog base bt (.slice ao es.length cap)) 52 (0, 0)) := by rw [← hW.out]; exact hp_at _ _ rfl
  have hb0 : Below w.heap.size w W := by rw [← hW.out]; exact (Below.refl _ _).alloc (Nat.le_refl _) _
  have h2 := h.frame (Plain.good _) (Agree.below hb0)
  have H2 := Lib.hid h2
  have HF : Hid (∀ w', Below W.heap.size W w' → Ents F w' (.slice ao es.length cap) es) := fun w' hb => h2.frame (Plain.good _) (Agree.below hb)
  have HE := Lib.hid (wire_last base bt _ es F W h2 hk)
  obtain ⟨B, hB⟩ := hide w.heap.size
  rw [hB.out] at hc
  have Hx := Lib.hid (logKept (w := w) hc)
  have c0 := cell_n hc 0 (v := .int .i64 base) rfl
  have c1 := cell_n hc 1 (v := .int .i64 bt) rfl
  have c2 := cell_n hc 2 (v := .slice ao es.length cap) rfl
  have Hb0 := Lib.hid hb0
  have hb1 := hk.b0
  have hb2 := hk.b1
  have hbn := hk.n
  have Hk := Lib.hid hk
  clear hc h h2 hb0 hk
  obtain ⟨r, hr⟩ := hide (freshB base bt es index term)
  rw [hr.out]
  have hdef : freshB base bt es index term = (decide (lastT bt es < term) || (term == lastT bt es && decide (base + es.length ≤ index))) := rfl
  rw [hr.out] at hdef
  obtain ⟨lt, hlt⟩ := hide (lastT bt es)
  rw [hlt.out] at HE hdef
  have Hd := Lib.hid hdef
  clear hdef
  go_enter Try.func50, Try.ntmps50
  go_upto_region 1 with fail
  rw [hW.out, hB.out]
  go_wp2_with fail
  refine HE.out.mono ?_
  rintro e w1 ⟨rfl, hb⟩
  have Hb := Lib.hid (Hb0.out.trans (hb.mono Hb0.out.size))
  clear hb c0 c1 c2
  by_cases a1 : lt < term
  · obtain rfl : true = r := by rw [Hd.out, decide_eq_true a1]; rfl
    go_wp2_with fail
    go_ret
    exact ⟨rfl, Hb.out⟩
  have u1 : decide (lt < term) = false := decide_eq_false a1
  by_cases a2 : term = lt
  · have u2 : (term == lt) = true := beq_iff_eq.2 a2
    by_cases a3 : base + es.length ≤ index
    · obtain rfl : true = r := by rw [Hd.out, u2, decide_eq_true a3]; simp
      have A2 := Lib.hid a2
      clear a2
      go_wp2_with fail
      go_ret
      exact ⟨rfl, Hb.out⟩
    · obtain rfl : false = r := by rw [Hd.out, u2, decide_eq_false a3, decide_eq_false a1]; rfl
      have A2 := Lib.hid a2
      have u3 : decide (base + (es.length : Int) ≤ index) = false := decide_eq_false a3
      clear a2
      go_wp2_with fail
      go_ret
      exact ⟨rfl, Hb.out⟩
  · have u2 : (term == lt) = false := beq_eq_false_iff_ne.2 a2
    obtain rfl : false = r := by rw [Hd.out, u2, decide_eq_false a1]; rfl
    clear a2
    go_wp2_with fail
    go_ret
    exact ⟨rfl, Hb.out⟩

set_option maxHeartbeats 1000000 in
theorem ref_fresh (base bt index term : Int) (ev : Value) (es : List EntP) (F : Nat → Prop) (w : World) (h : Ents F w ev es) (hk : Ok base es) :
    Calls Try.prog 51 #[vLog base bt ev, .int .i64 index, .int .i64 term] w fun e w' => e = .returned (.bool (freshB base bt es index term)) ∧ Below w.heap.size w w' := by
  obtain ⟨ao, cap, rfl, hcap, hmax⟩ := h.slice
  obtain ⟨W, hW⟩ := hide (w.alloc (.cells (oLog base bt (.slice ao es.length cap)) 52))
  have hc : W.heap[w.heap.size]? = some (.cells (oLog base bt (.slice ao es.length cap)) 52 (0, 0)) := by rw [← hW.out]; exact hp_at _ _ rfl
  have hb0 : Below w.heap.size w W := by rw [← hW.out]; exact (Below.refl _ _).alloc (Nat.le_refl _) _
  have h2 := h.frame (Plain.good _) (Agree.below hb0)
  have H2 := Lib.hid h2
  have HF : Hid (∀ w', Below W.heap.size W w' → Ents F w' (.slice ao es.length cap) es) := fun w' hb => h2.frame (Plain.good _) (Agree.below hb)
  have HE := Lib.hid (ref_last base bt _ es F W h2 hk)
  obtain ⟨B, hB⟩ := hide w.heap.size
  rw [hB.out] at hc
  have Hx := Lib.hid (logKept (w := w) hc)
  have c0 := cell_n hc 0 (v := .int .i64 base) rfl
  have c1 := cell_n hc 1 (v := .int .i64 bt) rfl
  have c2 := cell_n hc 2 (v := .slice ao es.length cap) rfl
  have Hb0 := Lib.hid hb0
  have hb1 := hk.b0
  have hb2 := hk.b1
  have hbn := hk.n
  have Hk := Lib.hid hk
  clear hc h h2 hb0 hk
  obtain ⟨r, hr⟩ := hide (freshB base bt es index term)
  rw [hr.out]
  have hdef : freshB base bt es index term = (decide (lastT bt es < term) || (term == lastT bt es && decide (base + es.length ≤ index))) := rfl
  rw [hr.out] at hdef
  obtain ⟨lt, hlt⟩ := hide (lastT bt es)
  rw [hlt.out] at HE hdef
  have Hd := Lib.hid hdef
  clear hdef
  go_enter Try.func51, Try.ntmps51
  go_upto_region 1 with fail
  rw [hW.out, hB.out]
  go_wp2_with fail
  refine HE.out.mono ?_
  rintro e w1 ⟨rfl, hb⟩
  have Hb := Lib.hid (Hb0.out.trans (hb.mono Hb0.out.size))
  clear hb c0 c1 c2
  by_cases a1 : lt < term
  · obtain rfl : true = r := by rw [Hd.out, decide_eq_true a1]; rfl
    go_wp2_with fail
    go_ret
    exact ⟨rfl, Hb.out⟩
  have u1 : decide (lt < term) = false := decide_eq_false a1
  by_cases a2 : term = lt
  · have u2 : (term == lt) = true := beq_iff_eq.2 a2
    by_cases a3 : base + es.length ≤ index
    · obtain rfl : true = r := by rw [Hd.out, u2, decide_eq_true a3]; simp
      have A2 := Lib.hid a2
      clear a2
      go_wp2_with fail
      go_ret
      exact ⟨rfl, Hb.out⟩
    · obtain rfl : false = r := by rw [Hd.out, u2, decide_eq_false a3, decide_eq_false a1]; rfl
      have A2 := Lib.hid a2
      have u3 : decide (base + (es.length : Int) ≤ index) = false := decide_eq_false a3
      clear a2
      go_wp2_with fail
      go_ret
      exact ⟨rfl, Hb.out⟩
  · have u2 : (term == lt) = false := beq_eq_false_iff_ne.2 a2
    obtain rfl : false = r := by rw [Hd.out, u2, decide_eq_false a1]; rfl
    clear a2
    go_wp2_with fail
    go_ret
    exact ⟨rfl, Hb.out⟩

theorem down_stop {base bt : Int} {es : List EntP} {t : Int} : ∀ (n : Nat) (p : Int), ¬ (base + 1 < p ∧ (termAt base bt es (p - 1)).1 = t) → down base bt es t n p = p
  | 0, p, _ => rfl
  | n + 1, p, h => by rw [down, if_neg h]
theorem down_go {base bt : Int} {es : List EntP} {t : Int} {n : Nat} {p : Int} (h : base + 1 < p ∧ (termAt base bt es (p - 1)).1 = t) (hn : (p - base).toNat ≤ n) : down base bt es t n p = down base bt es t (n - 1) (p - 1) := by
  cases n with
  | zero => omega
  | succ n => rw [down, if_pos h]; rfl

set_option maxHeartbeats 2000000 in
theorem ref_first (base bt p : Int) (ev : Value) (es : List EntP) (F : Nat → Prop) (w : World) (h : Ents F w ev es) (hk : Ok base es) (hp1 : base ≤ p) (hp2 : p ≤ 4398046511104) :
    Calls Try.prog 117 #[vLog base bt ev, .int .i64 p] w fun e w' => e = .returned (.int .i64 (firstOf base bt es p)) ∧ Below w.heap.size w w' := by
  obtain ⟨ao, cap, rfl, hcap, hmax⟩ := h.slice
  obtain ⟨W, hW⟩ := hide (w.alloc (.cells (oLog base bt (.slice ao es.length cap)) 52))
  have hc : W.heap[w.heap.size]? = some (.cells (oLog base bt (.slice ao es.length cap)) 52 (0, 0)) := by rw [← hW.out]; exact hp_at _ _ rfl
  have hb0 : Below w.heap.size w W := by rw [← hW.out]; exact (Below.refl _ _).alloc (Nat.le_refl _) _
  have h2 := h.frame (Plain.good _) (Agree.below hb0)
  have H2 := Lib.hid h2
  have HF : Hid (∀ w', Below W.heap.size W w' → Ents F w' (.slice ao es.length cap) es) := fun w' hb => h2.frame (Plain.good _) (Agree.below hb)
  have HT : Hid (∀ w' (i : Int), -4398046511104 ≤ i → i ≤ 4398046511104 → Below W.heap.size W w' → Calls Try.prog 47 #[vLog base bt (.slice ao es.length cap), .int .i64 i] w' fun e w'' => e = .returned (.tuple #[.int .i64 (termAt base bt es i).1, .int .i64 (termAt base bt es i).2]) ∧ Below w'.heap.size w' w'') := fun w' i h1 h2 hb => ref_termAt base bt i _ es F w' (HF.out w' hb) hk h1 h2
  obtain ⟨B, hB⟩ := hide w.heap.size
  rw [hB.out] at hc
  have Hx := Lib.hid (logKept (w := w) hc)
  have c0 := cell_n hc 0 (v := .int .i64 base) rfl
  have c1 := cell_n hc 1 (v := .int .i64 bt) rfl
  have c2 := cell_n hc 2 (v := .slice ao es.length cap) rfl
  have Hb0 := Lib.hid hb0
  have hb1 := hk.b0
  have hb2 := hk.b1
  have hbn := hk.n
  have Hk := Lib.hid hk
  clear hc h h2 hb0 hk
  obtain ⟨r, hr⟩ := hide (firstOf base bt es p)
  rw [hr.out]
  go_enter Try.func117, Try.ntmps117
  go_upto_region 1 with fail
  rw [hW.out, hB.out]
  go_wp2_with fail

  have Hfo := hr
  refine (HT.out _ p (by omega) (by omega) (Below.refl _ _)).mono ?_
  rintro e w2 ⟨rfl, hb⟩
  have Hb2 := Lib.hid hb
  clear hb
  have x0 := Hx.out _ Hb2.out
  clear c0 c1 c2
  have c0 := cell_n x0 0 (v := .int .i64 base) rfl
  have c1 := cell_n x0 1 (v := .int .i64 bt) rfl
  have c2 := cell_n x0 2 (v := .slice ao es.length cap) rfl
  clear x0

  have hdn : down base bt es (termAt base bt es p).1 (p - base).toNat p = r := Hfo.out
  obtain ⟨t, ht⟩ := hide (termAt base bt es p).1
  obtain ⟨t', ht'⟩ := hide (termAt base bt es p).2
  rw [ht.out] at hdn
  rw [ht.out, ht'.out]
  have Hdn := Lib.hid hdn
  clear hdn
  go_wp2_with fail

  go_loopw [1, 7, 8] (fun i _ _ wr => ∃ q : Int, i = .int .i64 q ∧ base ≤ q ∧ q ≤ p ∧ Hid (down base bt es t (q - base).toNat q = r) ∧ Hid (Below W.heap.size W wr)) (fun i _ _ _ => (intOf i - base).toNat)
  case atStart => exact ⟨p, rfl, hp1, Int.le_refl _, Hdn, Hb2.out⟩
  case round =>
    obtain ⟨q, rfl, hq1, hq2, hd, hb⟩ := hrel
    have x0 := Hx.out _ hb.out
    clear c0 c1 c2
    have c0 := cell_n x0 0 (v := .int .i64 base) rfl
    have c1 := cell_n x0 1 (v := .int .i64 bt) rfl
    have c2 := cell_n x0 2 (v := .slice ao es.length cap) rfl
    clear x0
    by_cases a5 : base + 1 < q
    · obtain ⟨u, hu⟩ := hide (termAt base bt es (q - 1))
      have HT2 := Lib.hid (HT.out wr (q - 1) (by omega) (by omega) hb.out)
      rw [hu.out] at HT2
      go_wp2_with fail
      refine HT2.out.mono ?_
      rintro e w4 ⟨rfl, hb4⟩
      have Hb4 := Lib.hid (hb.out.trans (hb4.mono hb.out.size))
      clear hb4 c0 c1 c2
      by_cases a6 : u.1 = t
      · have v1 : (u.1 != t) = false := by rw [bne_eq_false_iff_eq]; exact a6
        have hd2 : Hid (down base bt es t (q - 1 - base).toNat (q - 1) = r) := by
          show _ = _
          rw [← hd.out, down_go (n := (q - base).toNat) ⟨a5, by rw [hu.out]; exact a6⟩ (Nat.le_refl _)]
          congr 1
          omega
        have A6 := Lib.hid a6
        clear a6
        go_wp2_with fail
        go_roundw
        case rel => exact ⟨q - 1, rfl, by omega, by omega, hd2, Hb4⟩
        case measure => simp [intOf]; omega
      · have v1 : (u.1 != t) = true := by rw [bne_iff_ne]; exact a6
        obtain rfl : q = r := by rw [← hd.out, down_stop]; rw [hu.out]; exact fun h => a6 h.2
        clear a6
        go_wp2_with fail
        go_ret
        exact ⟨rfl, Hb0.out.trans (Hb4.out.mono Hb0.out.size)⟩
    · obtain rfl : q = r := by rw [← hd.out, down_stop]; exact fun h => a5 h.1
      go_wp2_with fail
      go_ret
      exact ⟨rfl, Hb0.out.trans (hb.out.mono Hb0.out.size)⟩

set_option maxHeartbeats 2000000 in
theorem wire_hint (base bt p : Int) (ev : Value) (es : List EntP) (F : Nat → Prop) (w : World) (h : Ents F w ev es) (hk : Ok base es) (hp1 : base ≤ p) (hp2 : p ≤ 4398046511104) :
    Calls Try.prog 113 #[vLog base bt ev, .int .i64 p] w fun e w' => e = .returned (.int .i64 (hintOf base bt es p)) ∧ Below w.heap.size w w' := by
  obtain ⟨ao, cap, rfl, hcap, hmax⟩ := h.slice
  obtain ⟨W, hW⟩ := hide (w.alloc (.cells (oLog base bt (.slice ao es.length cap)) 52))
  have hc : W.heap[w.heap.size]? = some (.cells (oLog base bt (.slice ao es.length cap)) 52 (0, 0)) := by rw [← hW.out]; exact hp_at _ _ rfl
  have hb0 : Below w.heap.size w W := by rw [← hW.out]; exact (Below.refl _ _).alloc (Nat.le_refl _) _
  have h2 := h.frame (Plain.good _) (Agree.below hb0)
  have H2 := Lib.hid h2
  have HF : Hid (∀ w', Below W.heap.size W w' → Ents F w' (.slice ao es.length cap) es) := fun w' hb => h2.frame (Plain.good _) (Agree.below hb)
  have HT : Hid (∀ w' (i : Int), -4398046511104 ≤ i → i ≤ 4398046511104 → Below W.heap.size W w' → Calls Try.prog 46 #[vLog base bt (.slice ao es.length cap), .int .i64 i] w' fun e w'' => e = .returned (.tuple #[.int .i64 (termAt base bt es i).1, .int .i64 (termAt base bt es i).2]) ∧ Below w'.heap.size w' w'') := fun w' i h1 h2 hb => wire_termAt base bt i _ es F w' (HF.out w' hb) hk h1 h2
  have HL := Lib.hid (wire_last base bt _ es F W h2 hk)
  obtain ⟨B, hB⟩ := hide w.heap.size
  rw [hB.out] at hc
  have Hx := Lib.hid (logKept (w := w) hc)
  have c0 := cell_n hc 0 (v := .int .i64 base) rfl
  have c1 := cell_n hc 1 (v := .int .i64 bt) rfl
  have c2 := cell_n hc 2 (v := .slice ao es.length cap) rfl
  have Hb0 := Lib.hid hb0
  have hb1 := hk.b0
  have hb2 := hk.b1
  have hbn := hk.n
  have Hk := Lib.hid hk
  clear hc h h2 hb0 hk
  obtain ⟨r, hr⟩ := hide (hintOf base bt es p)
  rw [hr.out]
  go_enter Try.func113, Try.ntmps113
  go_upto_region 1 with fail
  rw [hW.out, hB.out]
  go_wp2_with fail

  refine HL.out.mono ?_
  rintro e w1 ⟨rfl, hb⟩
  have x0 := Hx.out _ hb
  clear c0 c1 c2
  have c0 := cell_n x0 0 (v := .int .i64 base) rfl
  have c1 := cell_n x0 1 (v := .int .i64 bt) rfl
  have c2 := cell_n x0 2 (v := .slice ao es.length cap) rfl
  clear x0
  have Hb := Lib.hid hb
  clear hb
  by_cases a1 : base + es.length < p
  · obtain rfl : base + es.length + 1 = r := by rw [← hr.out, hintOf, if_pos a1]
    go_wp2_with fail
    go_ret
    exact ⟨rfl, Hb0.out.trans (Hb.out.mono Hb0.out.size)⟩
  have hfo : firstOf base bt es p = r := by rw [← hr.out, hintOf, if_neg a1]
  have Hfo := Lib.hid hfo
  clear hfo
  go_wp2_with fail
  refine (HT.out _ p (by omega) (by omega) Hb.out).mono ?_
  rintro e w2 ⟨rfl, hb⟩
  have Hb2 := Lib.hid (Hb.out.trans (hb.mono Hb.out.size))
  clear hb
  have x0 := Hx.out _ Hb2.out
  clear c0 c1 c2
  have c0 := cell_n x0 0 (v := .int .i64 base) rfl
  have c1 := cell_n x0 1 (v := .int .i64 bt) rfl
  have c2 := cell_n x0 2 (v := .slice ao es.length cap) rfl
  clear x0

  have hdn : down base bt es (termAt base bt es p).1 (p - base).toNat p = r := Hfo.out
  obtain ⟨t, ht⟩ := hide (termAt base bt es p).1
  obtain ⟨t', ht'⟩ := hide (termAt base bt es p).2
  rw [ht.out] at hdn
  rw [ht.out, ht'.out]
  have Hdn := Lib.hid hdn
  clear hdn
  go_wp2_with fail

  go_loopw [1, 9, 10] (fun i _ _ wr => ∃ q : Int, i = .int .i64 q ∧ base ≤ q ∧ q ≤ p ∧ Hid (down base bt es t (q - base).toNat q = r) ∧ Hid (Below W.heap.size W wr)) (fun i _ _ _ => (intOf i - base).toNat)
  case atStart => exact ⟨p, rfl, hp1, Int.le_refl _, Hdn, Hb2.out⟩
  case round =>
    obtain ⟨q, rfl, hq1, hq2, hd, hb⟩ := hrel
    have x0 := Hx.out _ hb.out
    clear c0 c1 c2
    have c0 := cell_n x0 0 (v := .int .i64 base) rfl
    have c1 := cell_n x0 1 (v := .int .i64 bt) rfl
    have c2 := cell_n x0 2 (v := .slice ao es.length cap) rfl
    clear x0
    by_cases a5 : base + 1 < q
    · obtain ⟨u, hu⟩ := hide (termAt base bt es (q - 1))
      have HT2 := Lib.hid (HT.out wr (q - 1) (by omega) (by omega) hb.out)
      rw [hu.out] at HT2
      go_wp2_with fail
      refine HT2.out.mono ?_
      rintro e w4 ⟨rfl, hb4⟩
      have Hb4 := Lib.hid (hb.out.trans (hb4.mono hb.out.size))
      clear hb4 c0 c1 c2
      by_cases a6 : u.1 = t
      · have v1 : (u.1 != t) = false := by rw [bne_eq_false_iff_eq]; exact a6
        have hd2 : Hid (down base bt es t (q - 1 - base).toNat (q - 1) = r) := by
          show _ = _
          rw [← hd.out, down_go (n := (q - base).toNat) ⟨a5, by rw [hu.out]; exact a6⟩ (Nat.le_refl _)]
          congr 1
          omega
        have A6 := Lib.hid a6
        clear a6
        go_wp2_with fail
        go_roundw
        case rel => exact ⟨q - 1, rfl, by omega, by omega, hd2, Hb4⟩
        case measure => simp [intOf]; omega
      · have v1 : (u.1 != t) = true := by rw [bne_iff_ne]; exact a6
        obtain rfl : q = r := by rw [← hd.out, down_stop]; rw [hu.out]; exact fun h => a6 h.2
        clear a6
        go_wp2_with fail
        go_ret
        exact ⟨rfl, Hb0.out.trans (Hb4.out.mono Hb0.out.size)⟩
    · obtain rfl : q = r := by rw [← hd.out, down_stop]; exact fun h => a5 h.1
      go_wp2_with fail
      go_ret
      exact ⟨rfl, Hb0.out.trans (hb.out.mono Hb0.out.size)⟩

end Go.Proofs.Ytlknkhmhdmpdkaa
