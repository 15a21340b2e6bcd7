/-
  Results: may one be? both ways.
-/
import Derived.Test.YtbonmeogmjfkeaaTa
import Derived.Test.YtbonmeogmjfkeaaLs
namespace Go.Proofs.Ytbonmeogmjfkeaa
open Go.RowKit Wm Mm
set_option linter.unusedVariables false

theorem Strs.at {w : World} {a : Option Addr} {n c : Nat} {l : List (List UInt8)} (h : Strs w (.slice a n c) l) {k : Nat} (hk : k < l.length) : ∃ b off, a = some ⟨b, off, none⟩ ∧ w.cell? ⟨b, off + k, none⟩ = some (str l[k]) := by
  obtain ⟨ao, cap, he, h1, h2⟩ := h
  obtain ⟨b, off, rfl, h3⟩ := h1 (pairs_ne hk)
  injection he with e1 e2 e3
  exact ⟨b, off, e1, h3 k l[k] (by simp [hk])⟩
theorem Strs.slice {w : World} {v : Value} {l : List (List UInt8)} (h : Strs w v l) : ∃ ao cap, v = .slice ao l.length cap ∧ l.length ≤ 9223372036854775807 := by
  obtain ⟨ao, cap, rfl, _, hm⟩ := h
  exact ⟨ao, cap, rfl, hm⟩
def prevK (l : List (List UInt8)) : Nat → List UInt8 → Bool
  | 0, _ => true
  | j + 1, x => match l[j]? with | none => true | some y => !(strGe y x)
def okKey (l : List (List UInt8)) (i : Nat) (x : List UInt8) : Bool := decide (x.length ≤ 16) && prevK l i x
def keysB (l : List (List UInt8)) : Bool := (List.range l.length).all (fun i => match l[i]? with | none => true | some p => okKey l i p)
def resB (kind : Int) (val : List UInt8) (ver : Int) (keys : List (List UInt8)) : Bool := keysB keys && (inB kind 0 8 && (decide (val.length ≤ 64) && (inB ver 0 1099511627775 && decide (keys.length ≤ 32))))
abbrev vRes (kind : Int) (val : List UInt8) (ver : Int) (kv : Value) : Value := .agg #[.int .i64 kind, str val, .int .i64 ver, kv]
theorem keysB_no {l : List (List UInt8)} {k : Nat} (hk : k < l.length) (h : okKey l k l[k] = false) : keysB l = false := by
  rw [keysB, List.all_eq_false]
  exact ⟨k, List.mem_range.2 hk, by rw [List.getElem?_eq_getElem hk]; simp [h]⟩
theorem keysB_all {l : List (List UInt8)} (h : ∀ i p, i < l.length → l[i]? = some p → okKey l i p = true) : keysB l = true := by
  rw [keysB, List.all_eq_true]
  intro i hi
  have hl := List.mem_range.1 hi
  rw [List.getElem?_eq_getElem hl]
  exact h i _ hl (by simp [hl])

set_option maxHeartbeats 2000000 in
set_option maxRecDepth 100000 in
theorem wire_isResult (kind : Int) (val : List UInt8) (ver : Int) (kv : Value) (keys : List (List UInt8)) (w : World) (hv : Strs w kv keys) :
    Calls Try.prog 164 #[vRes kind val ver kv] w fun e w' => e = .returned (.bool (resB kind val ver keys)) ∧ Below w.heap.size w w' := by
  obtain ⟨ao, cap, rfl, hm⟩ := hv.slice
  obtain ⟨post, HP⟩ := hide (fun (e : Ending) (w' : World) => e = .returned (.bool (resB kind val ver keys)) ∧ Below w.heap.size w w')
  rw [HP.out]
  obtain ⟨W, hW⟩ := hide (w.alloc (.cells #[.int .i64 kind, str val, .int .i64 ver, .slice ao keys.length cap] 190))
  have hc : W.heap[w.heap.size]? = some (.cells #[.int .i64 kind, str val, .int .i64 ver, .slice ao keys.length cap] 190 (0, 0)) := by rw [← hW.out]; exact hp_at _ _ rfl
  have hb0 : Below w.heap.size w W := by rw [← hW.out]; exact (Below.refl _ _).alloc (Nat.le_refl _) _
  have HV := Lib.hid (hv.mono hb0)
  have Hx : Hid (∀ w', Below W.heap.size W w' → w'.heap[w.heap.size]? = some (.cells #[.int .i64 kind, str val, .int .i64 ver, .slice ao keys.length cap] 190 (0, 0))) := fun w' h => (h.block _ (lt_of_block hc)).trans hc
  have Hp : Hid (∀ z w', Below W.heap.size W w' → resB kind val ver keys = z → post (.returned (.bool z)) w') := by
    show ∀ z w', _ → _ → _
    intro z w' hw hz; rw [← HP.out, ← hz]; exact ⟨rfl, hb0.trans (hw.mono hb0.size)⟩
  have hdef : resB kind val ver keys = (keysB keys && (inB kind 0 8 && (decide (val.length ≤ 64) && (inB ver 0 1099511627775 && decide (keys.length ≤ 32))))) := rfl
  have Hdef := Lib.hid hdef
  obtain ⟨B, hB⟩ := hide w.heap.size
  rw [hB.out] at Hx
  have x0 := Hx.out _ (Below.refl _ _)
  have c3 := cell_n x0 3 (v := .slice ao keys.length cap) rfl
  clear hc hb0 hv hdef x0
  go_enter Try.func164, Try.ntmps164
  go_upto_region 1 with fail
  rw [hW.out, hB.out]
  go_wp2_with fail
  go_loopw [8] (fun i wr => ∃ k : Nat, i = .int .i64 k ∧ k ≤ keys.length ∧ Hid (Below W.heap.size W wr) ∧ Hid (∀ i p, i < k → keys[i]? = some p → okKey keys i p = true)) (fun i _ => keys.length - (intOf i).toNat)
  case atStart => exact ⟨0, rfl, Nat.zero_le _, Below.refl _ _, fun i p h => by omega⟩
  case round =>
    clear c3
    obtain ⟨k, rfl, hk, hb, hx⟩ := hrel
    have x0 := Hx.out _ hb.out
    have c0 := cell_n x0 0 (v := .int .i64 kind) rfl
    have c1 := cell_n x0 1 (v := str val) rfl
    have c2 := cell_n x0 2 (v := .int .i64 ver) rfl
    have c3 := cell_n x0 3 (v := .slice ao keys.length cap) rfl
    clear x0
    by_cases hlt : k < keys.length
    · obtain ⟨b, off, rfl, ck⟩ := (HV.out.mono hb.out).at hlt
      have hmk : ∀ m, k = m + 1 → ∃ hm : m < keys.length, wr.cell? ⟨b, off + m, none⟩ = some (str keys[m]) := by
        intro m e
        have hml : m < keys.length := by omega
        obtain ⟨b', off', e1, c'⟩ := (HV.out.mono hb.out).at hml
        injection e1 with e1
        injection e1 with e1 e2
        exact ⟨hml, by rw [e1, e2]; exact c'⟩
      have Hmk := Lib.hid hmk
      clear hmk
      have Hno : Hid (okKey keys k keys[k] = false → ∀ w', Below W.heap.size W w' → post (.returned (.bool false)) w') := by
        show _ → ∀ w', _ → _
        intro h w' hw
        exact Hp.out false w' hw (by rw [Hdef.out, keysB_no hlt h]; rfl)
      have Hyes : Hid (okKey keys k keys[k] = true → ∀ i p, i < k + 1 → keys[i]? = some p → okKey keys i p = true) := by
        show _ → ∀ i p, _ → _ → _
        intro h i p hi hip
        rcases Nat.lt_or_eq_of_le (Nat.le_of_lt_succ hi) with h1 | rfl
        · exact hx.out i p h1 hip
        · rw [List.getElem?_eq_getElem hlt] at hip; cases hip; exact h
      obtain ⟨x, hX⟩ := hide keys[k]
      rw [hX.out] at ck Hno Hyes
      have hok : okKey keys k x = (decide (x.length ≤ 16) && prevK keys k x) := rfl
      have Hok := Lib.hid hok
      clear hok
      by_cases h16 : 16 < x.length
      · have t2 : decide ((16 : Int) < (x.length : Int)) = true := decide_eq_true (by omega)
        have Hq := Lib.hid (Hno.out (by rw [Hok.out, decide_eq_false (by omega : ¬ x.length ≤ 16)]; rfl))
        clear h16
        go_wp2_with fail
        exact Hq.out _ (hb.out)
      · have t2 : decide ((16 : Int) < (x.length : Int)) = false := decide_eq_false (by omega)
        have H16 : Hid (decide (x.length ≤ 16) = true) := decide_eq_true (by omega)
        clear h16
        cases k with
        | zero =>
          have Hq := Lib.hid (Hyes.out (by rw [Hok.out, H16.out]; rfl))
          rw [show (((0 : Nat) : Int)) = 0 from rfl]
          rw [Nat.add_zero] at ck
          go_wp2_with fail
          go_roundw
          case rel => exact ⟨1, by go_num, hlt, hb, Hq.out⟩
          case measure => simp [intOf]; omega
        | succ m =>
          obtain ⟨hml, cm⟩ := Hmk.out m rfl
          have hkp : prevK keys (m + 1) x = !(strGe keys[m] x) := by rw [prevK, List.getElem?_eq_getElem hml]
          have Hkp := Lib.hid hkp
          obtain ⟨pk, hpk⟩ := hide keys[m]
          rw [hpk.out] at cm Hkp
          clear hkp
          cases t5 : strGe pk x with
          | true =>
            have Hq := Lib.hid (Hno.out (by rw [Hok.out, H16.out, Hkp.out, t5]; rfl))
            unfold strGe at t5
            go_wp2_with fail
            exact Hq.out _ (hb.out)
          | false =>
            have Hq := Lib.hid (Hyes.out (by rw [Hok.out, H16.out, Hkp.out, t5]; rfl))
            unfold strGe at t5
            go_wp2_with fail
            go_roundw
            case rel => exact ⟨m + 1 + 1, by go_num, hlt, hb, Hq.out⟩
            case measure => simp [intOf]; omega
    · have hkn : k = keys.length := by omega
      have hall := keysB_all (l := keys) (fun i p hi hip => hx.out i p (by omega) hip)
      have hd2 : resB kind val ver keys = (inB kind 0 8 && (decide (val.length ≤ 64) && (inB ver 0 1099511627775 && decide (keys.length ≤ 32)))) := by rw [Hdef.out, hall]; rfl
      have Hd2 := Lib.hid hd2
      clear hkn hall hd2
      have t9 : decide ((keys.length : Int) ≤ 32) = decide (keys.length ≤ 32) := by simp only [decide_eq_decide]; omega
      have t8 : decide ((val.length : Int) ≤ 64) = decide (val.length ≤ 64) := by simp only [decide_eq_decide]; omega
      obtain ⟨r4, hr4⟩ := hide (decide (keys.length ≤ 32))
      obtain ⟨r2, hr2⟩ := hide (decide (val.length ≤ 64))
      rw [hr4.out] at t9 Hd2
      rw [hr2.out] at t8 Hd2
      have K1 := Lib.hid (fun w' => in_any kind 0 8 w')
      have K3 := Lib.hid (fun w' => in_any ver 0 1099511627775 w')
      obtain ⟨r1, hr1⟩ := hide (inB kind 0 8)
      obtain ⟨r3, hr3⟩ := hide (inB ver 0 1099511627775)
      rw [hr1.out] at K1 Hd2
      rw [hr3.out] at K3 Hd2
      go_wp2_with fail
      refine (K1.out _).mono ?_
      rintro e w' ⟨rfl, rfl⟩
      cases r1 with
      | false =>
        have Hq := Lib.hid (Hp.out false _ hb.out (by rw [Hd2.out]; rfl))
        go_wp2_with fail
        exact Hq.out
      | true =>
      cases r2 with
      | false =>
        have Hq := Lib.hid (Hp.out false _ hb.out (by rw [Hd2.out]; rfl))
        go_wp2_with fail
        exact Hq.out
      | true =>
      go_wp2_with fail
      refine (K3.out _).mono ?_
      rintro e w' ⟨rfl, rfl⟩
      cases r3 <;> cases r4
      all_goals
        have Hq := Lib.hid (Hp.out _ _ hb.out Hd2.out)
        go_wp2_with fail
        exact Hq.out

set_option maxHeartbeats 2000000 in
set_option maxRecDepth 100000 in
theorem ref_isResult (kind : Int) (val : List UInt8) (ver : Int) (kv : Value) (keys : List (List UInt8)) (w : World) (hv : Strs w kv keys) :
    Calls Try.prog 161 #[vRes kind val ver kv] w fun e w' => e = .returned (.bool (resB kind val ver keys)) ∧ Below w.heap.size w w' := by
  obtain ⟨ao, cap, rfl, hm⟩ := hv.slice
  obtain ⟨post, HP⟩ := hide (fun (e : Ending) (w' : World) => e = .returned (.bool (resB kind val ver keys)) ∧ Below w.heap.size w w')
  rw [HP.out]
  obtain ⟨W, hW⟩ := hide (w.alloc (.cells #[.int .i64 kind, str val, .int .i64 ver, .slice ao keys.length cap] 190))
  have hc : W.heap[w.heap.size]? = some (.cells #[.int .i64 kind, str val, .int .i64 ver, .slice ao keys.length cap] 190 (0, 0)) := by rw [← hW.out]; exact hp_at _ _ rfl
  have hb0 : Below w.heap.size w W := by rw [← hW.out]; exact (Below.refl _ _).alloc (Nat.le_refl _) _
  have HV := Lib.hid (hv.mono hb0)
  have Hx : Hid (∀ w', Below W.heap.size W w' → w'.heap[w.heap.size]? = some (.cells #[.int .i64 kind, str val, .int .i64 ver, .slice ao keys.length cap] 190 (0, 0))) := fun w' h => (h.block _ (lt_of_block hc)).trans hc
  have Hp : Hid (∀ z w', Below W.heap.size W w' → resB kind val ver keys = z → post (.returned (.bool z)) w') := by
    show ∀ z w', _ → _ → _
    intro z w' hw hz; rw [← HP.out, ← hz]; exact ⟨rfl, hb0.trans (hw.mono hb0.size)⟩
  have hdef : resB kind val ver keys = (keysB keys && (inB kind 0 8 && (decide (val.length ≤ 64) && (inB ver 0 1099511627775 && decide (keys.length ≤ 32))))) := rfl
  have Hdef := Lib.hid hdef
  obtain ⟨B, hB⟩ := hide w.heap.size
  rw [hB.out] at Hx
  have x0 := Hx.out _ (Below.refl _ _)
  have c3 := cell_n x0 3 (v := .slice ao keys.length cap) rfl
  clear hc hb0 hv hdef x0
  go_enter Try.func161, Try.ntmps161
  go_upto_region 1 with fail
  rw [hW.out, hB.out]
  go_wp2_with fail
  go_loopw [3] (fun i wr => ∃ k : Nat, i = .int .i64 k ∧ k ≤ keys.length ∧ Hid (Below W.heap.size W wr) ∧ Hid (∀ i p, i < k → keys[i]? = some p → okKey keys i p = true)) (fun i _ => keys.length - (intOf i).toNat)
  case atStart => exact ⟨0, rfl, Nat.zero_le _, Below.refl _ _, fun i p h => by omega⟩
  case round =>
    clear c3
    obtain ⟨k, rfl, hk, hb, hx⟩ := hrel
    have x0 := Hx.out _ hb.out
    have c0 := cell_n x0 0 (v := .int .i64 kind) rfl
    have c1 := cell_n x0 1 (v := str val) rfl
    have c2 := cell_n x0 2 (v := .int .i64 ver) rfl
    have c3 := cell_n x0 3 (v := .slice ao keys.length cap) rfl
    clear x0
    by_cases hlt : k < keys.length
    · obtain ⟨b, off, rfl, ck⟩ := (HV.out.mono hb.out).at hlt
      have hmk : ∀ m, k = m + 1 → ∃ hm : m < keys.length, wr.cell? ⟨b, off + m, none⟩ = some (str keys[m]) := by
        intro m e
        have hml : m < keys.length := by omega
        obtain ⟨b', off', e1, c'⟩ := (HV.out.mono hb.out).at hml
        injection e1 with e1
        injection e1 with e1 e2
        exact ⟨hml, by rw [e1, e2]; exact c'⟩
      have Hmk := Lib.hid hmk
      clear hmk
      have Hno : Hid (okKey keys k keys[k] = false → ∀ w', Below W.heap.size W w' → post (.returned (.bool false)) w') := by
        show _ → ∀ w', _ → _
        intro h w' hw
        exact Hp.out false w' hw (by rw [Hdef.out, keysB_no hlt h]; rfl)
      have Hyes : Hid (okKey keys k keys[k] = true → ∀ i p, i < k + 1 → keys[i]? = some p → okKey keys i p = true) := by
        show _ → ∀ i p, _ → _ → _
        intro h i p hi hip
        rcases Nat.lt_or_eq_of_le (Nat.le_of_lt_succ hi) with h1 | rfl
        · exact hx.out i p h1 hip
        · rw [List.getElem?_eq_getElem hlt] at hip; cases hip; exact h
      obtain ⟨x, hX⟩ := hide keys[k]
      rw [hX.out] at ck Hno Hyes
      have hok : okKey keys k x = (decide (x.length ≤ 16) && prevK keys k x) := rfl
      have Hok := Lib.hid hok
      clear hok
      by_cases h16 : 16 < x.length
      · have t2 : decide ((16 : Int) < (x.length : Int)) = true := decide_eq_true (by omega)
        have Hq := Lib.hid (Hno.out (by rw [Hok.out, decide_eq_false (by omega : ¬ x.length ≤ 16)]; rfl))
        clear h16
        go_wp2_with (go_quiet (fail))
        exact Hq.out _ (below_drewN hb.out _)
      · have t2 : decide ((16 : Int) < (x.length : Int)) = false := decide_eq_false (by omega)
        have H16 : Hid (decide (x.length ≤ 16) = true) := decide_eq_true (by omega)
        clear h16
        cases k with
        | zero =>
          have Hq := Lib.hid (Hyes.out (by rw [Hok.out, H16.out]; rfl))
          rw [show (((0 : Nat) : Int)) = 0 from rfl]
          rw [Nat.add_zero] at ck
          go_wp2_with (go_quiet (fail))
          go_roundw
          case rel => exact ⟨1, by go_num, hlt, below_drewN hb.out _, Hq.out⟩
          case measure => simp [intOf]; omega
        | succ m =>
          obtain ⟨hml, cm⟩ := Hmk.out m rfl
          have hkp : prevK keys (m + 1) x = !(strGe keys[m] x) := by rw [prevK, List.getElem?_eq_getElem hml]
          have Hkp := Lib.hid hkp
          obtain ⟨pk, hpk⟩ := hide keys[m]
          rw [hpk.out] at cm Hkp
          clear hkp
          cases t5 : strGe pk x with
          | true =>
            have Hq := Lib.hid (Hno.out (by rw [Hok.out, H16.out, Hkp.out, t5]; rfl))
            unfold strGe at t5
            go_wp2_with (go_quiet (fail))
            exact Hq.out _ (below_drewN hb.out _)
          | false =>
            have Hq := Lib.hid (Hyes.out (by rw [Hok.out, H16.out, Hkp.out, t5]; rfl))
            unfold strGe at t5
            go_wp2_with (go_quiet (fail))
            go_roundw
            case rel => exact ⟨m + 1 + 1, by go_num, hlt, below_drewN hb.out _, Hq.out⟩
            case measure => simp [intOf]; omega
    · have hkn : k = keys.length := by omega
      have hall := keysB_all (l := keys) (fun i p hi hip => hx.out i p (by omega) hip)
      have hd2 : resB kind val ver keys = (inB kind 0 8 && (decide (val.length ≤ 64) && (inB ver 0 1099511627775 && decide (keys.length ≤ 32)))) := by rw [Hdef.out, hall]; rfl
      have Hd2 := Lib.hid hd2
      clear hkn hall hd2
      have t9 : decide ((keys.length : Int) ≤ 32) = decide (keys.length ≤ 32) := by simp only [decide_eq_decide]; omega
      have t8 : decide ((val.length : Int) ≤ 64) = decide (val.length ≤ 64) := by simp only [decide_eq_decide]; omega
      obtain ⟨r4, hr4⟩ := hide (decide (keys.length ≤ 32))
      obtain ⟨r2, hr2⟩ := hide (decide (val.length ≤ 64))
      rw [hr4.out] at t9 Hd2
      rw [hr2.out] at t8 Hd2
      have t1 : decide ((0 : Int) ≤ kind) = decide ((0 : Int) ≤ kind) := rfl
      obtain ⟨a1, ha1⟩ := hide (decide ((0 : Int) ≤ kind))
      obtain ⟨a2, ha2⟩ := hide (decide (kind ≤ 8))
      obtain ⟨a3, ha3⟩ := hide (decide ((0 : Int) ≤ ver))
      obtain ⟨a4, ha4⟩ := hide (decide (ver ≤ 1099511627775))
      have e1 : inB kind 0 8 = (a1 && a2) := by rw [← ha1.out, ← ha2.out]; rfl
      have e2 : inB ver 0 1099511627775 = (a3 && a4) := by rw [← ha3.out, ← ha4.out]; rfl
      rw [e1, e2] at Hd2
      clear e1 e2 t1
      have u1 : decide ((0 : Int) ≤ kind) = a1 := ha1.out
      have u2 : decide (kind ≤ 8) = a2 := ha2.out
      have u3 : decide ((0 : Int) ≤ ver) = a3 := ha3.out
      have u4 : decide (ver ≤ 1099511627775) = a4 := ha4.out
      cases a1 with
      | false =>
        have Hq := Lib.hid (Hp.out false _ hb.out (by rw [Hd2.out]; rfl))
        go_wp2_with fail
        exact Hq.out
      | true =>
      cases a2 with
      | false =>
        have Hq := Lib.hid (Hp.out false _ hb.out (by rw [Hd2.out]; rfl))
        go_wp2_with fail
        exact Hq.out
      | true =>
      cases r2 with
      | false =>
        have Hq := Lib.hid (Hp.out false _ hb.out (by rw [Hd2.out]; rfl))
        go_wp2_with fail
        exact Hq.out
      | true =>
      cases a3 with
      | false =>
        have Hq := Lib.hid (Hp.out false _ hb.out (by rw [Hd2.out]; rfl))
        go_wp2_with fail
        exact Hq.out
      | true =>
      cases a4 with
      | false =>
        have Hq := Lib.hid (Hp.out false _ hb.out (by rw [Hd2.out]; rfl))
        go_wp2_with fail
        exact Hq.out
      | true =>
      cases r4
      all_goals
        have Hq := Lib.hid (Hp.out _ _ hb.out Hd2.out)
        go_wp2_with fail
        exact Hq.out
end Go.Proofs.Ytbonmeogmjfkeaa
