/-
  Parts of logs, both ways: entries from an index on; a log without all up to an index.
-/
import Derived.Test.YtlknkhmhdmpdkaaLd
import Derived.Deep.RegionHeld3
namespace Go.Proofs.Ytlknkhmhdmpdkaa
open Go.RowKit Wm Mm Lg
set_option linter.unusedVariables false
set_option linter.unusedSimpArgs false

def partOf (base : Int) (es : List EntP) (fr most : Int) : List EntP × Int :=
  if fr ≤ base then ([], 11) else if base + es.length + 1 < fr then ([], 12) else if most < 0 then ([], 12) else ((es.drop (fr - base - 1).toNat).take most.toNat, 0)

set_option maxHeartbeats 2000000 in
theorem wire_slice (base bt fr most : Int) (ev : Value) (es : List EntP) (F : Nat → Prop) (w : World) (h : Ents F w ev es) (hk : Ok base es) (hf1 : -4398046511104 ≤ fr) (hf2 : fr ≤ 4398046511104) :
    Calls Try.prog 43 #[vLog base bt ev, .int .i64 fr, .int .i64 most] w fun e w' => ∃ v', e = .returned (.tuple #[v', .int .i64 (partOf base es fr most).2]) ∧ OwnE w.heap.size w' v' (partOf base es fr most).1 ∧ Below w.heap.size w w' := by
  obtain ⟨X, hX⟩ := hide (partOf base es fr most)
  rw [hX.out]
  obtain ⟨post, HP⟩ := hide (fun (e : Ending) (w' : World) => ∃ v', e = .returned (.tuple #[v', .int .i64 X.2]) ∧ OwnE w.heap.size w' v' X.1 ∧ Below w.heap.size w w')
  rw [HP.out]
  obtain ⟨ao, cap, rfl, hcap, hmax⟩ := h.slice
  obtain ⟨W, hW⟩ := hide (w.alloc (.cells (oLog base bt (.slice ao es.length cap)) 52))
  have hc : W.heap[w.heap.size]? = some (.cells (oLog base bt (.slice ao es.length cap)) 52 (0, 0)) := by rw [← hW.out]; exact hp_at _ _ rfl
  have hb0 : Below w.heap.size w W := by rw [← hW.out]; exact (Below.refl _ _).alloc (Nat.le_refl _) _
  have h2 := h.frame (Plain.good _) (Agree.below hb0)
  have H2 := Lib.hid h2
  have HF : Hid (∀ w', Below W.heap.size W w' → Ents F w' (.slice ao es.length cap) es) := fun w' hb => h2.frame (Plain.good _) (Agree.below hb)
  have HL := Lib.hid (wire_last base bt _ es F W h2 hk)
  obtain ⟨B, hB⟩ := hide w.heap.size
  rw [hB.out] at hc
  have Hx := Lib.hid (logKept (w := w) hc)
  have c0 := cell_n hc 0 (v := .int .i64 base) rfl
  have c1 := cell_n hc 1 (v := .int .i64 bt) rfl
  have c2 := cell_n hc 2 (v := .slice ao es.length cap) rfl
  have Hb0 := Lib.hid hb0
  have hb1 := hk.b0
  have hb2 := hk.b1
  have hbn := hk.n
  have Hk := Lib.hid hk
  clear hc h h2 hb0 hk
  go_enter Try.func43, Try.ntmps43
  go_upto_region 1 with fail
  rw [hW.out, hB.out]
  go_wp2_with fail
  refine HL.out.mono ?_
  rintro e w1 ⟨rfl, hb⟩
  have x0 := Hx.out _ hb
  clear c0 c1 c2
  have c0 := cell_n x0 0 (v := .int .i64 base) rfl
  have c1 := cell_n x0 1 (v := .int .i64 bt) rfl
  have c2 := cell_n x0 2 (v := .slice ao es.length cap) rfl
  clear x0
  have Hb := Lib.hid hb
  have Hbw := Lib.hid (Hb0.out.trans (hb.mono Hb0.out.size))
  have H3 := Lib.hid (HF.out _ hb)
  clear hb
  by_cases a1 : fr ≤ base
  · obtain rfl : ([], 11) = X := by rw [← hX.out, partOf, if_pos a1]
    go_wp2_with fail
    rw [← HP.out]
    exact ⟨_, rfl, World.ownsRow_nil _ _ _ _, Hbw.out⟩
  by_cases a2 : base + es.length + 1 < fr
  · obtain rfl : ([], 12) = X := by rw [← hX.out, partOf, if_neg a1, if_pos a2]
    go_wp2_with fail
    rw [← HP.out]
    exact ⟨_, rfl, World.ownsRow_nil _ _ _ _, Hbw.out⟩
  by_cases a3 : most < 0
  · obtain rfl : ([], 12) = X := by rw [← hX.out, partOf, if_neg a1, if_neg a2, if_pos a3]
    go_wp2_with fail
    rw [← HP.out]
    exact ⟨_, rfl, World.ownsRow_nil _ _ _ _, Hbw.out⟩
  obtain ⟨n, hn⟩ : ∃ n : Nat, most = (n : Int) := ⟨most.toNat, by omega⟩
  subst hn
  obtain ⟨m, hm⟩ : ∃ m : Nat, fr = base + 1 + (m : Int) := ⟨(fr - base - 1).toNat, by omega⟩
  subst hm
  have hml : m ≤ es.length := by omega
  have hXe : ((es.drop m).take n, (0 : Int)) = X := by
    rw [← hX.out, partOf, if_neg a1, if_neg a2, if_neg a3, show (base + 1 + (m : Int) - base - 1).toNat = m from by omega]; rfl
  subst hXe
  have p2 : base + 1 + (m : Int) - base = 1 + (m : Int) := by omega
  have hdl : (es.drop m).length = es.length - m := List.length_drop
  have hcl : ∀ w' v (L : List EntP) (G : Nat → Prop), Ents G w' v L → L.length ≤ es.length → Calls Try.prog 118 #[v] w' fun e w'' => ∃ v', e = .returned v' ∧ OwnE w'.heap.size w'' v' L ∧ Below w'.heap.size w' w'' := fun w' v L G hL hle => clone_ents v L G w' hL (by omega)
  have HCL := Lib.hid hcl
  have hmc : m ≤ cap := by omega
  have hml2 : (m : Int) ≤ (es.length : Int) := by omega
  cases ao with
  | none =>
    obtain ⟨rfl, rfl⟩ := H3.out.isNil
    obtain rfl : m = 0 := by simpa using hml
    have HC1 := Lib.hid (HCL.out w1 (.slice none 0 0) [] F H3.out (Nat.le_refl _))
    clear hcl hdl
    rcases Nat.eq_zero_or_pos n with rfl | hn0
    all_goals
      go_wp2_with fail
      refine HC1.out.mono ?_
      rintro e w2 ⟨v', rfl, ho, hb2⟩
      obtain ⟨a, c, rfl⟩ := owns_slice ho
      have HO := Lib.hid (own_base ho Hbw.out.size)
      have HB := Lib.hid (Hbw.out.trans (hb2.mono Hbw.out.size))
      clear ho hb2 c0 c1 c2
      go_wp2_with fail
      rw [← HP.out]
      refine ⟨_, rfl, ?_, HB.out⟩
      rw [List.drop_nil, List.take_nil]
      exact HO.out
  | some a =>
    have hpart : ∃ av, Ents F w1 (.slice av (es.length - m) (cap - m)) (es.drop m) ∧ ((cap = m → av = some a) ∧ (cap ≠ m → av = some (a.add (m * 4)))) := by
      by_cases hcm : cap = m
      · refine ⟨some a, ?_, fun _ => rfl, fun h => absurd hcm h⟩
        have h0 : es.drop m = [] := List.drop_eq_nil_of_le (by omega)
        rw [h0]
        exact ⟨some a, cap - m, by rw [List.length_nil, show es.length - m = 0 from by omega], ⟨by simp, fun h => by cases h⟩, by simp, fun h => absurd rfl h⟩
      · by_cases h0 : 0 < es.length
        · obtain ⟨b, off, e, _, _⟩ := H3.out.all h0
          injection e with e
          subst e
          have hadd : (⟨b, off, none⟩ : Addr).add (m * 4) = ⟨b, off + m * 4, none⟩ := by unfold Addr.add; split <;> simp_all
          exact ⟨_, Sl.drop H3.out hml, fun h => absurd h hcm, fun _ => by rw [hadd]⟩
        · refine ⟨some (a.add (m * 4)), ?_, fun h => absurd h hcm, fun _ => rfl⟩
          have h1 : es.drop m = [] := List.drop_eq_nil_of_le (by omega)
          rw [h1]
          exact ⟨some (a.add (m * 4)), cap - m, by rw [List.length_nil, show es.length - m = 0 from by omega], ⟨by simp, fun h => by cases h⟩, by simp, fun h => absurd rfl h⟩
    obtain ⟨av, hpa, hav⟩ := hpart
    obtain ⟨q, hq⟩ : ∃ q : Nat, q = min n (es.length - m) := ⟨_, rfl⟩
    have hqt : (es.drop m).take n = (es.drop m).take q := by
      rw [hq, ← hdl, ← List.take_eq_take_min]
    have hqe := hpa.take (k := q) (by rw [hdl]; omega)
    have HC1 := Lib.hid (HCL.out w1 _ _ F hqe (by rw [List.length_take, hdl]; omega))
    have Hqt := Lib.hid hqt
    have Hq := Lib.hid hq
    have hmc2 : (m : Int) ≤ (cap : Int) := by omega
    clear hcl hdl hqe hqt hpa hq
    by_cases hmn : es.length - m < n
    · have hqq : q = es.length - m := by rw [Hq.out]; omega
      have hmn2 : ((es.length - m : Nat) : Int) < (n : Int) := by omega
      have e5 : ((es.length - m : Nat) : Int) = (es.length : Int) - (m : Int) := by omega
      have hLl : ((es.drop m).take q).length = q := by rw [List.length_take, List.length_drop]; omega
      obtain ⟨L, hL⟩ := hide ((es.drop m).take q)
      rw [hL.out] at HC1 hLl
      rw [hqq] at HC1 hLl
      have HLl := Lib.hid hLl
      have Hqq := Lib.hid hqq
      clear hqq hLl
      have hav2 : (cap = m ∧ av = some a) ∨ (cap ≠ m ∧ av = some (a.add (m * 4))) := by
        by_cases hcm : cap = m
        · exact Or.inl ⟨hcm, hav.1 hcm⟩
        · exact Or.inr ⟨hcm, hav.2 hcm⟩
      rcases hav2 with ⟨hcm, rfl⟩ | ⟨hcm, rfl⟩
      all_goals
        clear hav
        try rw [show cap - m = 0 from by omega] at HC1
        have hlm : es.length - m ≤ cap - m := by omega
        go_wp2_with fail
        refine HC1.out.mono ?_
        rintro e w2 ⟨v', rfl, ho, hb2⟩
        obtain ⟨a9, c9, rfl⟩ := owns_slice ho
        have HO := Lib.hid (own_base ho Hbw.out.size)
        have HB := Lib.hid (Hbw.out.trans (hb2.mono Hbw.out.size))
        clear ho hb2 c0 c1 c2
        go_wp2_with fail
        rw [← HP.out]
        refine ⟨_, rfl, ?_, HB.out⟩
        show OwnE _ _ _ ((es.drop m).take n)
        rw [Hqt.out, hL.out]
        first | exact HO.out | (have h9 := HO.out; unfold OwnE at h9; rw [HLl.out] at h9; unfold OwnE; rw [HLl.out]; exact h9)
    · have hqq : q = n := by rw [Hq.out]; omega
      have hmn2 : (n : Int) ≤ ((es.length - m : Nat) : Int) := by omega
      have e5 : ((es.length - m : Nat) : Int) = (es.length : Int) - (m : Int) := by omega
      have hLl : ((es.drop m).take q).length = q := by rw [List.length_take, List.length_drop]; omega
      obtain ⟨L, hL⟩ := hide ((es.drop m).take q)
      rw [hL.out] at HC1 hLl
      rw [hqq] at HC1 hLl
      have HLl := Lib.hid hLl
      have Hqq := Lib.hid hqq
      clear hqq hLl
      have hav2 : (cap = m ∧ av = some a) ∨ (cap ≠ m ∧ av = some (a.add (m * 4))) := by
        by_cases hcm : cap = m
        · exact Or.inl ⟨hcm, hav.1 hcm⟩
        · exact Or.inr ⟨hcm, hav.2 hcm⟩
      rcases hav2 with ⟨hcm, rfl⟩ | ⟨hcm, rfl⟩
      all_goals
        clear hav
        try rw [show cap - m = 0 from by omega] at HC1
        have hlm : n ≤ cap - m := by omega
        go_wp2_with fail
        refine HC1.out.mono ?_
        rintro e w2 ⟨v', rfl, ho, hb2⟩
        obtain ⟨a9, c9, rfl⟩ := owns_slice ho
        have HO := Lib.hid (own_base ho Hbw.out.size)
        have HB := Lib.hid (Hbw.out.trans (hb2.mono Hbw.out.size))
        clear ho hb2 c0 c1 c2
        go_wp2_with fail
        rw [← HP.out]
        refine ⟨_, rfl, ?_, HB.out⟩
        show OwnE _ _ _ ((es.drop m).take n)
        rw [Hqt.out, hL.out]
        first | exact HO.out | (have h9 := HO.out; unfold OwnE at h9; rw [HLl.out] at h9; unfold OwnE; rw [HLl.out]; exact h9)
set_option maxHeartbeats 2000000 in
theorem ref_slice (base bt fr most : Int) (ev : Value) (es : List EntP) (F : Nat → Prop) (w : World) (h : Ents F w ev es) (hk : Ok base es) (hf1 : -4398046511104 ≤ fr) (hf2 : fr ≤ 4398046511104) :
    Calls Try.prog 44 #[vLog base bt ev, .int .i64 fr, .int .i64 most] w fun e w' => ∃ v', e = .returned (.tuple #[v', .int .i64 (partOf base es fr most).2]) ∧ OwnE w.heap.size w' v' (partOf base es fr most).1 ∧ Below w.heap.size w w' := by
  obtain ⟨X, hX⟩ := hide (partOf base es fr most)
  rw [hX.out]
  obtain ⟨post, HP⟩ := hide (fun (e : Ending) (w' : World) => ∃ v', e = .returned (.tuple #[v', .int .i64 X.2]) ∧ OwnE w.heap.size w' v' X.1 ∧ Below w.heap.size w w')
  rw [HP.out]
  obtain ⟨ao, cap, rfl, hcap, hmax⟩ := h.slice
  obtain ⟨W, hW⟩ := hide (w.alloc (.cells (oLog base bt (.slice ao es.length cap)) 52))
  have hc : W.heap[w.heap.size]? = some (.cells (oLog base bt (.slice ao es.length cap)) 52 (0, 0)) := by rw [← hW.out]; exact hp_at _ _ rfl
  have hb0 : Below w.heap.size w W := by rw [← hW.out]; exact (Below.refl _ _).alloc (Nat.le_refl _) _
  have h2 := h.frame (Plain.good _) (Agree.below hb0)
  have H2 := Lib.hid h2
  have HF : Hid (∀ w', Below W.heap.size W w' → Ents F w' (.slice ao es.length cap) es) := fun w' hb => h2.frame (Plain.good _) (Agree.below hb)
  have HE := Lib.hid (ref_end base bt _ es F W h2 hk)
  obtain ⟨B, hB⟩ := hide w.heap.size
  rw [hB.out] at hc
  have Hx := Lib.hid (logKept (w := w) hc)
  have c0 := cell_n hc 0 (v := .int .i64 base) rfl
  have c1 := cell_n hc 1 (v := .int .i64 bt) rfl
  have c2 := cell_n hc 2 (v := .slice ao es.length cap) rfl
  have Hb0 := Lib.hid hb0
  have hb1 := hk.b0
  have hb2 := hk.b1
  have hbn := hk.n
  have Hk := Lib.hid hk
  clear hc h h2 hb0 hk
  go_enter Try.func44, Try.ntmps44
  go_upto_region 1 with fail
  rw [hW.out, hB.out]
  by_cases a1 : fr ≤ base
  · obtain rfl : ([], 11) = X := by rw [← hX.out, partOf, if_pos a1]
    go_wp2_with fail
    rw [← HP.out]
    exact ⟨_, rfl, World.ownsRow_nil _ _ _ _, Hb0.out⟩
  go_wp2_with fail
  refine HE.out.mono ?_
  rintro e w1 ⟨rfl, hb⟩
  have x0 := Hx.out _ hb
  clear c0 c1 c2
  have c0 := cell_n x0 0 (v := .int .i64 base) rfl
  have c1 := cell_n x0 1 (v := .int .i64 bt) rfl
  have c2 := cell_n x0 2 (v := .slice ao es.length cap) rfl
  clear x0
  have Hb := Lib.hid hb
  have Hbw := Lib.hid (Hb0.out.trans (hb.mono Hb0.out.size))
  clear hb
  by_cases a2 : base + es.length + 1 < fr
  · obtain rfl : ([], 12) = X := by rw [← hX.out, partOf, if_neg (by omega), if_pos a2]
    go_wp2_with fail
    rw [← HP.out]
    exact ⟨_, rfl, World.ownsRow_nil _ _ _ _, Hbw.out⟩
  by_cases a3 : most < 0
  · obtain rfl : ([], 12) = X := by rw [← hX.out, partOf, if_neg (by omega), if_neg a2, if_pos a3]
    go_wp2_with fail
    rw [← HP.out]
    exact ⟨_, rfl, World.ownsRow_nil _ _ _ _, Hbw.out⟩
  obtain ⟨n, hn⟩ : ∃ n : Nat, most = (n : Int) := ⟨most.toNat, by omega⟩
  subst hn
  obtain ⟨m, hm⟩ : ∃ m : Nat, fr = base + 1 + (m : Int) := ⟨(fr - base - 1).toNat, by omega⟩
  subst hm
  have hml : m ≤ es.length := by omega
  have hXe : ((es.drop m).take n, (0 : Int)) = X := by
    rw [← hX.out, partOf, if_neg (by omega), if_neg a2, if_neg a3, show (base + 1 + (m : Int) - base - 1).toNat = m from by omega]; rfl
  subst hXe
  have p2 : base + 1 + (m : Int) - base = 1 + (m : Int) := by omega
  go_wp2_with fail
  go_loopw [8, 9] (fun v i wr => ∃ (k : Nat) (av : Option Addr) (cv : Nat), i = .int .i64 ((m + k : Nat) : Int) ∧ m + k ≤ es.length ∧ k ≤ n ∧ v = .slice av k cv ∧ Hid (wr.ownsRow W.heap.size 56 4 (.slice av k cv) k (((es.drop m).take k).flatMap rowE)) ∧ Hid (Below W.heap.size W wr)) (fun _ i _ => es.length - (intOf i).toNat)
  case atStart => exact ⟨0, none, 0, by rw [show (1 + (m : Int) - 1) = ((m + 0 : Nat) : Int) from by omega], hml, Nat.zero_le _, rfl, by rw [List.take_zero]; exact World.ownsRow_nil _ _ _ _, Hb⟩
  case round =>
    clear c0 c1 c2
    obtain ⟨k, av, cv, rfl, hke, hkn, rfl, ho, hb⟩ := hrel
    have x0 := Hx.out _ hb.out
    have c2 := cell_n x0 2 (v := .slice ao es.length cap) rfl
    clear x0
    have hmk : m + k ≤ 9223372036854775807 := by omega
    by_cases hlt : m + k < es.length
    · by_cases hkn2 : k < n
      · obtain ⟨b, off, us, rfl, _, _, hus, hcs⟩ := (HF.out _ hb.out).at hlt
        have htk : (es.drop m).take (k + 1) = (es.drop m).take k ++ [es[m + k]] := by
          have hlt2 : k < (es.drop m).length := by rw [List.length_drop]; omega
          rw [List.take_succ_eq_append_getElem hlt2, List.getElem_drop]
        obtain ⟨x, hx⟩ := hide es[m + k]
        rw [hx.out] at hus htk
        have e1 : us = rowE x := hus
        subst e1
        have d0 := hcs 0 _ rfl
        have d1 := hcs 1 _ rfl
        have d2 := hcs 2 _ rfl
        have d3 := hcs 3 _ rfl
        rw [Nat.add_zero] at d0
        have Htk := Lib.hid htk
        have hBs : W.heap.size ≤ wr.heap.size := hb.out.size
        clear hcs hus htk
        go_wp2_with (at_builtin; refine wpList_push rfl _ _ 50 rfl W.heap.size 56 _ 4 40 Try.underlying50 info_ent rfl (by decide) _ _ _ rfl ho.out _ rfl rfl (by intro u hu; simp at hu; rcases hu with hu | hu | hu | hu <;> (subst hu; rfl)) (by unfold maxLen; omega) (by omega) hBs ?_)
        intro v9 w9 ho9 hg9
        obtain ⟨a9, c9, rfl⟩ := owns_slice ho9
        have Ho9 : Hid (w9.ownsRow W.heap.size 56 4 (.slice a9 (k + 1) c9) (k + 1) (((es.drop m).take (k + 1)).flatMap rowE)) := by
          show World.ownsRow _ _ _ _ _ _ _
          rw [Htk.out, List.flatMap_append]; simpa using ho9
        have Hb9W := Lib.hid (hb.out.trans (below_own ho.out hg9 (Nat.le_refl _) hBs))
        clear ho9 hg9
        go_wp2_with fail
        go_roundw
        case rel => exact ⟨k + 1, a9, c9, by go_num, by omega, hkn2, rfl, Ho9, Hb9W⟩
        case measure => simp [intOf]; omega
      · have hkk : k = n := by omega
        have hno : ((n : Int)) ≤ (k : Int) := by omega
        have Hkk := Lib.hid hkk
        clear hkk
        go_wp2_with fail
        rw [← HP.out]
        refine ⟨_, rfl, ?_, Hb0.out.trans (hb.out.mono Hb0.out.size)⟩
        show World.ownsRow _ _ _ _ _ _ _
        have hl : ((es.drop m).take n).length = k := by rw [List.length_take, List.length_drop]; have := Hkk.out; omega
        have ht : (es.drop m).take n = (es.drop m).take k := by rw [Hkk.out]
        rw [hl, ht]
        exact own_base ho.out Hb0.out.size
    · have hkk : k = es.length - m := by omega
      have Hkk := Lib.hid hkk
      clear hkk
      go_wp2_with fail
      rw [← HP.out]
      refine ⟨_, rfl, ?_, Hb0.out.trans (hb.out.mono Hb0.out.size)⟩
      show World.ownsRow _ _ _ _ _ _ _
      have hdl : (es.drop m).length = k := by rw [List.length_drop]; exact Hkk.out.symm
      have hl : ((es.drop m).take n).length = k := by rw [List.length_take]; omega
      have ht : (es.drop m).take n = (es.drop m).take k := by rw [List.take_of_length_le (by omega), List.take_of_length_le (by omega)]
      rw [hl, ht]
      exact own_base ho.out Hb0.out.size
end Go.Proofs.Ytlknkhmhdmpdkaa
