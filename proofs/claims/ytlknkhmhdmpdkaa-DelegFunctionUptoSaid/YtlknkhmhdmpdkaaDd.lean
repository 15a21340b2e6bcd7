/-
  Bounds of keys: which may be, both ways; ranges.
-/
import Derived.Test.YtlknkhmhdmpdkaaDc
namespace Go.Proofs.Ytlknkhmhdmpdkaa
open Go.RowKit Wm Mm Dg
set_option linter.unusedVariables false
set_option linter.unusedSimpArgs false

theorem okAt_pos {l : List BoundP} {k : Nat} (h : k < l.length) (hk : ¬ k = 0) : okAt l k = (decide (1 ≤ l[k].host) && decide (l[k].host ≤ 9) && decide (l[k].frm.length ≤ 16) && (lt (l[k - 1]'(by omega)).frm l[k].frm && (l[k - 1]'(by omega)).host != l[k].host)) := by
  obtain ⟨i, rfl⟩ : ∃ i, k = i + 1 := ⟨k - 1, by omega⟩
  exact okAt_succ h
theorem okAt_at {l : List BoundP} {k : Nat} (h : k < l.length) : ∃ r : Bool, okAt l k = (decide (1 ≤ l[k].host) && decide (l[k].host ≤ 9) && decide (l[k].frm.length ≤ 16) && r) ∧ (k = 0 → r = (l[k].frm == [])) ∧ (∀ hk : ¬ k = 0, r = (lt (l[k - 1]'(by omega)).frm l[k].frm && (l[k - 1]'(by omega)).host != l[k].host)) := by
  by_cases hk : k = 0
  · subst hk
    exact ⟨_, okAt_zero h, fun _ => rfl, fun h => absurd rfl h⟩
  · exact ⟨_, okAt_pos h hk, fun h => absurd h hk, fun _ => rfl⟩

set_option maxHeartbeats 2000000 in
theorem valid_law (v : Value) (l : List BoundP) (F : Nat → Prop) (w : World) (h : Bnds F w v l) :
    Calls Try.prog 22 #[v] w fun e w' => e = .returned (.bool (okB l)) ∧ Below w.heap.size w w' := by
  obtain ⟨ao, cap, rfl, hcap, hmax⟩ := h.slice
  have HF : Hid (∀ w', Below w.heap.size w w' → Bnds F w' (.slice ao l.length cap) l) := fun w' hb => h.frame (Plain.good _) (Agree.below hb)
  obtain ⟨R, hR⟩ := hide (okB l)
  rw [hR.out]
  have HA : Hid ((∀ j, j < l.length → okAt l j = true) → R = decide (0 < l.length)) := by show _ → _; rw [← hR.out]; exact okB_all
  have HN : Hid (∀ j, j < l.length → okAt l j = false → R = false) := by show ∀ _, _; rw [← hR.out]; exact fun j => okB_bad
  clear h
  go_enter Try.func22, Try.ntmps22
  go_wp2_with fail
  go_loopw [7] (fun i wr => ∃ k : Nat, i = .int .i64 k ∧ k ≤ l.length ∧ Hid (∀ j, j < k → okAt l j = true) ∧ Hid (Below w.heap.size w wr)) (fun i _ => l.length - (intOf i).toNat)
  case atStart => exact ⟨0, rfl, Nat.zero_le _, fun j h => by omega, Below.refl _ _⟩
  case round =>
    obtain ⟨k, rfl, hkl, hok, hb⟩ := hrel
    by_cases hlt : k < l.length
    · obtain ⟨b, off, rfl, c0, c1⟩ := Sl.two (HF.out _ hb.out) hlt
      obtain ⟨r, hr, hr0, hr1⟩ := okAt_at hlt
      have Hr1 := Lib.hid hr1
      obtain ⟨y, hy⟩ := hide l[k]
      rw [hy.out] at c0 c1 hr hr0
      obtain ⟨V, hV⟩ := hide (wr.alloc (.cells #[str y.frm, .int .i64 y.host] 36))
      obtain ⟨B, hB⟩ := hide wr.heap.size
      have hcV : V.heap[B]? = some (.cells #[str y.frm, .int .i64 y.host] 36 (0, 0)) := by rw [← hV.out, ← hB.out]; exact hp_at _ _ rfl
      have d0 := cell_n hcV 0 (v := str y.frm) rfl
      have d1 := cell_n hcV 1 (v := .int .i64 y.host) rfl
      have HbV : Hid (Below w.heap.size w V) := by show Below _ _ _; rw [← hV.out]; exact hb.out.alloc hb.out.size _
      clear hcV
      have Hr := Lib.hid hr
      have Hr0 := Lib.hid hr0
      clear hr hr0 hr1
      go_upto_region 4 with fail
      rw [hV.out, hB.out]
      have HX : Hid (r = false → R = false) := fun h => HN.out k hlt (by rw [Hr.out, h, Bool.and_false])
      by_cases a1 : 1 ≤ y.host
      · by_cases a2 : y.host ≤ 9
        · by_cases a3 : y.frm.length ≤ 16
          · have s1 : decide (y.host < 1) = false := decide_eq_false (by omega)
            have s2 : decide (9 < y.host) = false := decide_eq_false (by omega)
            have s3 : decide ((16 : Int) < (y.frm.length : Int)) = false := decide_eq_false (by omega)
            have HY : Hid (r = true → ∀ j, j < k + 1 → okAt l j = true) := fun h j hj => by
              rcases Nat.lt_or_ge j k with h1 | h1
              · exact hok.out j h1
              · have : j = k := by omega
                subst this
                rw [Hr.out, h, decide_eq_true a1, decide_eq_true a2, decide_eq_true a3]; rfl
            clear a1 a2 a3
            by_cases hk0 : k = 0
            · have hr0 := Hr0.out hk0
              cases hn : (y.frm == [])
              · rw [hn] at hr0
                have HR : Hid (R = false) := HX.out hr0
                subst hk0
                rw [Nat.zero_mul, Nat.add_zero] at c0 c1
                clear hr0
                go_wp2_with (go_quiet (fail))
                go_ret
                exact ⟨by rw [HR.out] <;> rfl, by first | exact below_drew' HbV.out _ | exact HbV.out⟩
              · rw [hn] at hr0
                have HK := Lib.hid (HY.out hr0)
                subst hk0
                rw [Nat.zero_mul, Nat.add_zero] at c0 c1
                clear hr0
                go_wp2_with (go_quiet (fail))
                go_roundw
                case rel => exact ⟨1, rfl, by omega, HK, below_drew' HbV.out _⟩
                case measure => simp [intOf]; omega
            · have hr1 := Hr1.out hk0
              have hjl : k - 1 < l.length := by omega
              obtain ⟨b', off', ee, e0, e1⟩ := Sl.two (HF.out _ HbV.out) hjl
              injection ee with ee
              injection ee with ee1 ee2
              subst ee1 ee2
              obtain ⟨z, hz⟩ := hide l[k - 1]
              rw [hy.out, hz.out] at hr1
              rw [hz.out] at e0 e1
              have t0 : ((k : Int) == 0) = false := beq_eq_false_iff_ne.2 (by omega)
              have t0' : decide ((0 : Int) < (k : Int)) = true := decide_eq_true (by omega)
              have t0'' : decide (0 < k) = true := decide_eq_true (by omega)
              have hw : IntKind.i64.wrap ((k : Int) - 1) = ((k - 1 : Nat) : Int) := by rw [IntWalk.i64_in _ (by omega)]; omega
              have Hk0 := Lib.hid hk0
              clear hk0
              cases hl : lt z.frm y.frm
              · rw [hl, Bool.false_and] at hr1
                have HR : Hid (R = false) := HX.out hr1
                have hl' : Op.bytesLess z.frm y.frm = false := hl
                clear hl hr1
                go_wp2_with (go_quiet (fail))
                go_ret
                exact ⟨by rw [HR.out] <;> rfl, below_drew' HbV.out _⟩
              · rw [hl, Bool.true_and] at hr1
                have hl' : Op.bytesLess z.frm y.frm = true := hl
                clear hl
                cases hh : (z.host == y.host)
                · have HK := Lib.hid (HY.out (by rw [hr1, bne, hh]; rfl))
                  skip
                  clear hr1
                  go_wp2_with (go_quiet (fail))
                  go_roundw
                  case rel => exact ⟨k + 1, by go_num, by omega, HK, below_drew' HbV.out _⟩
                  case measure => simp [intOf]; omega
                · have HR : Hid (R = false) := HX.out (by rw [hr1, bne, hh]; rfl)
                  skip
                  clear hr1
                  go_wp2_with (go_quiet (fail))
                  go_ret
                  exact ⟨by rw [HR.out] <;> rfl, below_drew' HbV.out _⟩
          · have HR : Hid (R = false) := HN.out k hlt (by rw [Hr.out, decide_eq_false a3]; simp)
            have s1 : decide (y.host < 1) = false := decide_eq_false (by omega)
            have s2 : decide (9 < y.host) = false := decide_eq_false (by omega)
            have s3 : decide ((16 : Int) < (y.frm.length : Int)) = true := decide_eq_true (by omega)
            clear a1 a2 a3
            go_wp2_with fail
            go_ret
            exact ⟨by rw [HR.out] <;> rfl, HbV.out⟩
        · have HR : Hid (R = false) := HN.out k hlt (by rw [Hr.out, decide_eq_false a2]; simp)
          have s1 : decide (y.host < 1) = false := decide_eq_false (by omega)
          have s2 : decide (9 < y.host) = true := decide_eq_true (by omega)
          clear a1 a2
          go_wp2_with fail
          go_ret
          exact ⟨by rw [HR.out] <;> rfl, HbV.out⟩
      · have HR : Hid (R = false) := HN.out k hlt (by rw [Hr.out, decide_eq_false a1]; simp)
        have s1 : decide (y.host < 1) = true := decide_eq_true (by omega)
        clear a1
        go_wp2_with fail
        go_ret
        exact ⟨by rw [HR.out] <;> rfl, HbV.out⟩
    · obtain rfl : k = l.length := by omega
      have HR : Hid (R = decide (0 < l.length)) := HA.out hok.out
      go_wp2_with fail
      go_ret
      exact ⟨by rw [HR.out]; rfl, hb.out⟩

set_option maxHeartbeats 2000000 in
theorem isDelegation_law (v : Value) (l : List BoundP) (F : Nat → Prop) (w : World) (h : Bnds F w v l) :
    Calls Try.prog 21 #[v] w fun e w' => e = .returned (.bool (okB l)) ∧ Below w.heap.size w w' := by
  obtain ⟨ao, cap, rfl, hcap, hmax⟩ := h.slice
  have HF : Hid (∀ w', Below w.heap.size w w' → Bnds F w' (.slice ao l.length cap) l) := fun w' hb => h.frame (Plain.good _) (Agree.below hb)
  obtain ⟨R, hR⟩ := hide (okB l)
  rw [hR.out]
  have HA : Hid ((∀ j, j < l.length → okAt l j = true) → R = decide (0 < l.length)) := by show _ → _; rw [← hR.out]; exact okB_all
  have HN : Hid (∀ j, j < l.length → okAt l j = false → R = false) := by show ∀ _, _; rw [← hR.out]; exact fun j => okB_bad
  clear h
  go_enter Try.func21, Try.ntmps21
  go_wp2_with fail
  go_loopw [3] (fun i wr => ∃ k : Nat, i = .int .i64 k ∧ k ≤ l.length ∧ Hid (∀ j, j < k → okAt l j = true) ∧ Hid (Below w.heap.size w wr)) (fun i _ => l.length - (intOf i).toNat)
  case atStart => exact ⟨0, rfl, Nat.zero_le _, fun j h => by omega, Below.refl _ _⟩
  case round =>
    obtain ⟨k, rfl, hkl, hok, hb⟩ := hrel
    by_cases hlt : k < l.length
    · obtain ⟨b, off, rfl, c0, c1⟩ := Sl.two (HF.out _ hb.out) hlt
      obtain ⟨r, hr, hr0, hr1⟩ := okAt_at hlt
      have Hr1 := Lib.hid hr1
      obtain ⟨y, hy⟩ := hide l[k]
      rw [hy.out] at c0 c1 hr hr0
      have Hr := Lib.hid hr
      have Hr0 := Lib.hid hr0
      clear hr hr0 hr1
      have HX : Hid (r = false → R = false) := fun h => HN.out k hlt (by rw [Hr.out, h, Bool.and_false])
      by_cases a1 : 1 ≤ y.host
      · by_cases a2 : y.host ≤ 9
        · by_cases a3 : y.frm.length ≤ 16
          · have s1 : decide (y.host < 1) = false := decide_eq_false (by omega)
            have s2 : decide (9 < y.host) = false := decide_eq_false (by omega)
            have s3 : decide ((16 : Int) < (y.frm.length : Int)) = false := decide_eq_false (by omega)
            have HY : Hid (r = true → ∀ j, j < k + 1 → okAt l j = true) := fun h j hj => by
              rcases Nat.lt_or_ge j k with h1 | h1
              · exact hok.out j h1
              · have : j = k := by omega
                subst this
                rw [Hr.out, h, decide_eq_true a1, decide_eq_true a2, decide_eq_true a3]; rfl
            clear a1 a2 a3
            by_cases hk0 : k = 0
            · have hr0 := Hr0.out hk0
              cases hn : (y.frm == [])
              · rw [hn] at hr0
                have HR : Hid (R = false) := HX.out hr0
                subst hk0
                rw [Nat.zero_mul, Nat.add_zero] at c0 c1
                clear hr0
                go_wp2_with (go_quiet (fail))
                go_ret
                exact ⟨by rw [HR.out] <;> rfl, by first | exact below_drew' hb.out _ | exact hb.out⟩
              · rw [hn] at hr0
                have HK := Lib.hid (HY.out hr0)
                subst hk0
                rw [Nat.zero_mul, Nat.add_zero] at c0 c1
                clear hr0
                go_wp2_with (go_quiet (fail))
                go_roundw
                case rel => exact ⟨1, rfl, by omega, HK, below_drew' hb.out _⟩
                case measure => simp [intOf]; omega
            · have hr1 := Hr1.out hk0
              have hjl : k - 1 < l.length := by omega
              obtain ⟨b', off', ee, e0, e1⟩ := Sl.two (HF.out _ hb.out) hjl
              injection ee with ee
              injection ee with ee1 ee2
              subst ee1 ee2
              obtain ⟨z, hz⟩ := hide l[k - 1]
              rw [hy.out, hz.out] at hr1
              rw [hz.out] at e0 e1
              have t0 : ((k : Int) == 0) = false := beq_eq_false_iff_ne.2 (by omega)
              have t0' : decide ((0 : Int) < (k : Int)) = true := decide_eq_true (by omega)
              have t0'' : decide (0 < k) = true := decide_eq_true (by omega)
              have hw : IntKind.i64.wrap ((k : Int) - 1) = ((k - 1 : Nat) : Int) := by rw [IntWalk.i64_in _ (by omega)]; omega
              have Hk0 := Lib.hid hk0
              clear hk0
              cases hl : lt z.frm y.frm
              · rw [hl, Bool.false_and] at hr1
                have HR : Hid (R = false) := HX.out hr1
                have hl' : (Op.bytesLess y.frm z.frm || y.frm == z.frm) = true := by have := le_not y.frm z.frm; rw [hl] at this; exact this
                clear hl hr1
                go_wp2_with (go_quiet (fail))
                go_ret
                exact ⟨by rw [HR.out] <;> rfl, below_drew' hb.out _⟩
              · rw [hl, Bool.true_and] at hr1
                have hl' : (Op.bytesLess y.frm z.frm || y.frm == z.frm) = false := by have := le_not y.frm z.frm; rw [hl] at this; exact this
                clear hl
                cases hh : (z.host == y.host)
                · have HK := Lib.hid (HY.out (by rw [hr1, bne, hh]; rfl))
                  have hh' : (y.host == z.host) = false := by rw [BEq.comm]; exact hh
                  clear hr1
                  go_wp2_with (go_quiet (fail))
                  go_roundw
                  case rel => exact ⟨k + 1, by go_num, by omega, HK, below_drew' hb.out _⟩
                  case measure => simp [intOf]; omega
                · have HR : Hid (R = false) := HX.out (by rw [hr1, bne, hh]; rfl)
                  have hh' : (y.host == z.host) = true := by rw [BEq.comm]; exact hh
                  clear hr1
                  go_wp2_with (go_quiet (fail))
                  go_ret
                  exact ⟨by rw [HR.out] <;> rfl, below_drew' hb.out _⟩
          · have HR : Hid (R = false) := HN.out k hlt (by rw [Hr.out, decide_eq_false a3]; simp)
            have s1 : decide (y.host < 1) = false := decide_eq_false (by omega)
            have s2 : decide (9 < y.host) = false := decide_eq_false (by omega)
            have s3 : decide ((16 : Int) < (y.frm.length : Int)) = true := decide_eq_true (by omega)
            clear a1 a2 a3
            go_wp2_with fail
            go_ret
            exact ⟨by rw [HR.out] <;> rfl, hb.out⟩
        · have HR : Hid (R = false) := HN.out k hlt (by rw [Hr.out, decide_eq_false a2]; simp)
          have s1 : decide (y.host < 1) = false := decide_eq_false (by omega)
          have s2 : decide (9 < y.host) = true := decide_eq_true (by omega)
          clear a1 a2
          go_wp2_with fail
          go_ret
          exact ⟨by rw [HR.out] <;> rfl, hb.out⟩
      · have HR : Hid (R = false) := HN.out k hlt (by rw [Hr.out, decide_eq_false a1]; simp)
        have s1 : decide (y.host < 1) = true := decide_eq_true (by omega)
        clear a1
        go_wp2_with fail
        go_ret
        exact ⟨by rw [HR.out] <;> rfl, hb.out⟩
    · obtain rfl : k = l.length := by omega
      have HR : Hid (R = decide (0 < l.length)) := HA.out hok.out
      go_wp2_with fail
      go_ret
      exact ⟨by rw [HR.out]; rfl, hb.out⟩
end Go.Proofs.Ytlknkhmhdmpdkaa
