/-
  Results: may one be? both ways. Tables: may one be? both ways.
-/
import Derived.Test.YtidiodlemjeelaaTa
import Derived.Test.YtidiodlemjeelaaLs
import Derived.Lib.QuietBelow
namespace Go.Proofs.Ytidiodlemjeelaa
open Go.RowKit Wm Mm
set_option linter.unusedVariables false

theorem Strs.at {w : World} {a : Option Addr} {n c : Nat} {l : List (List UInt8)} (h : Strs w (.slice a n c) l) {k : Nat} (hk : k < l.length) : ∃ b off, a = some ⟨b, off, none⟩ ∧ w.cell? ⟨b, off + k, none⟩ = some (str l[k]) := by
  obtain ⟨ao, cap, he, h1, h2⟩ := h
  obtain ⟨b, off, rfl, h3⟩ := h1 (pairs_ne hk)
  injection he with e1 e2 e3
  exact ⟨b, off, e1, h3 k l[k] (by simp [hk])⟩
theorem Strs.slice {w : World} {v : Value} {l : List (List UInt8)} (h : Strs w v l) : ∃ ao cap, v = .slice ao l.length cap ∧ l.length ≤ 9223372036854775807 := by
  obtain ⟨ao, cap, rfl, _, hm⟩ := h
  exact ⟨ao, cap, rfl, hm⟩
def prevK (l : List (List UInt8)) : Nat → List UInt8 → Bool
  | 0, _ => true
  | j + 1, x => match l[j]? with | none => true | some y => !(strGe y x)
def okKey (l : List (List UInt8)) (i : Nat) (x : List UInt8) : Bool := decide (x.length ≤ 16) && prevK l i x
def keysB (l : List (List UInt8)) : Bool := (List.range l.length).all (fun i => match l[i]? with | none => true | some p => okKey l i p)
def resB (kind : Int) (val : List UInt8) (ver : Int) (keys : List (List UInt8)) : Bool := keysB keys && (inB kind 0 8 && (decide (val.length ≤ 64) && (inB ver 0 1099511627775 && decide (keys.length ≤ 32))))
abbrev vRes (kind : Int) (val : List UInt8) (ver : Int) (kv : Value) : Value := .agg #[.int .i64 kind, str val, .int .i64 ver, kv]
theorem keysB_no {l : List (List UInt8)} {k : Nat} (hk : k < l.length) (h : okKey l k l[k] = false) : keysB l = false := by
  rw [keysB, List.all_eq_false]
  exact ⟨k, List.mem_range.2 hk, by rw [List.getElem?_eq_getElem hk]; simp [h]⟩
theorem keysB_all {l : List (List UInt8)} (h : ∀ i p, i < l.length → l[i]? = some p → okKey l i p = true) : keysB l = true := by
  rw [keysB, List.all_eq_true]
  intro i hi
  have hl := List.mem_range.1 hi
  rw [List.getElem?_eq_getElem hl]
  exact h i _ hl (by simp [hl])

set_option maxHeartbeats 2000000 in
set_option maxRecDepth 100000 in
theorem wire_isResult (kind : Int) (val : List UInt8) (ver : Int) (kv : Value) (keys : List (List UInt8)) (w : World) (hv : Strs w kv keys) :
    Calls Try.prog 179 #[vRes kind val ver kv] w fun e w' => e = .returned (.bool (resB kind val ver keys)) ∧ Below w.heap.size w w' := by
  obtain ⟨ao, cap, rfl, hm⟩ := hv.slice
  obtain ⟨post, HP⟩ := hide (fun (e : Ending) (w' : World) => e = .returned (.bool (resB kind val ver keys)) ∧ Below w.heap.size w w')
  rw [HP.out]
  obtain ⟨W, hW⟩ := hide (w.alloc (.cells #[.int .i64 kind, str val, .int .i64 ver, .slice ao keys.length cap] 29))
  have hc : W.heap[w.heap.size]? = some (.cells #[.int .i64 kind, str val, .int .i64 ver, .slice ao keys.length cap] 29 (0, 0)) := by rw [← hW.out]; exact hp_at _ _ rfl
  have hb0 : Below w.heap.size w W := by rw [← hW.out]; exact (Below.refl _ _).alloc (Nat.le_refl _) _
  have HV := Lib.hid (hv.mono hb0)
  have Hx : Hid (∀ w', Below W.heap.size W w' → w'.heap[w.heap.size]? = some (.cells #[.int .i64 kind, str val, .int .i64 ver, .slice ao keys.length cap] 29 (0, 0))) := fun w' h => (h.block _ (lt_of_block hc)).trans hc
  have Hp : Hid (∀ z w', Below W.heap.size W w' → resB kind val ver keys = z → post (.returned (.bool z)) w') := by
    show ∀ z w', _ → _ → _
    intro z w' hw hz; rw [← HP.out, ← hz]; exact ⟨rfl, hb0.trans (hw.mono hb0.size)⟩
  have hdef : resB kind val ver keys = (keysB keys && (inB kind 0 8 && (decide (val.length ≤ 64) && (inB ver 0 1099511627775 && decide (keys.length ≤ 32))))) := rfl
  have Hdef := Lib.hid hdef
  obtain ⟨B, hB⟩ := hide w.heap.size
  rw [hB.out] at Hx
  have x0 := Hx.out _ (Below.refl _ _)
  have c3 := cell_n x0 3 (v := .slice ao keys.length cap) rfl
  clear hc hb0 hv hdef x0
  go_enter Try.func179, Try.ntmps179
  go_upto_region 1 with fail
  rw [hW.out, hB.out]
  go_wp2_with fail
  go_loopw [8] (fun i wr => ∃ k : Nat, i = .int .i64 k ∧ k ≤ keys.length ∧ Hid (Below W.heap.size W wr) ∧ Hid (∀ i p, i < k → keys[i]? = some p → okKey keys i p = true)) (fun i _ => keys.length - (intOf i).toNat)
  case atStart => exact ⟨0, rfl, Nat.zero_le _, Below.refl _ _, fun i p h => by omega⟩
  case round =>
    clear c3
    obtain ⟨k, rfl, hk, hb, hx⟩ := hrel
    have x0 := Hx.out _ hb.out
    have c0 := cell_n x0 0 (v := .int .i64 kind) rfl
    have c1 := cell_n x0 1 (v := str val) rfl
    have c2 := cell_n x0 2 (v := .int .i64 ver) rfl
    have c3 := cell_n x0 3 (v := .slice ao keys.length cap) rfl
    clear x0
    by_cases hlt : k < keys.length
    · obtain ⟨b, off, rfl, ck⟩ := (HV.out.mono hb.out).at hlt
      have hmk : ∀ m, k = m + 1 → ∃ hm : m < keys.length, wr.cell? ⟨b, off + m, none⟩ = some (str keys[m]) := by
        intro m e
        have hml : m < keys.length := by omega
        obtain ⟨b', off', e1, c'⟩ := (HV.out.mono hb.out).at hml
        injection e1 with e1
        injection e1 with e1 e2
        exact ⟨hml, by rw [e1, e2]; exact c'⟩
      have Hmk := Lib.hid hmk
      clear hmk
      have Hno : Hid (okKey keys k keys[k] = false → ∀ w', Below W.heap.size W w' → post (.returned (.bool false)) w') := by
        show _ → ∀ w', _ → _
        intro h w' hw
        exact Hp.out false w' hw (by rw [Hdef.out, keysB_no hlt h]; rfl)
      have Hyes : Hid (okKey keys k keys[k] = true → ∀ i p, i < k + 1 → keys[i]? = some p → okKey keys i p = true) := by
        show _ → ∀ i p, _ → _ → _
        intro h i p hi hip
        rcases Nat.lt_or_eq_of_le (Nat.le_of_lt_succ hi) with h1 | rfl
        · exact hx.out i p h1 hip
        · rw [List.getElem?_eq_getElem hlt] at hip; cases hip; exact h
      obtain ⟨x, hX⟩ := hide keys[k]
      rw [hX.out] at ck Hno Hyes
      have hok : okKey keys k x = (decide (x.length ≤ 16) && prevK keys k x) := rfl
      have Hok := Lib.hid hok
      clear hok
      by_cases h16 : 16 < x.length
      · have t2 : decide ((16 : Int) < (x.length : Int)) = true := decide_eq_true (by omega)
        have Hq := Lib.hid (Hno.out (by rw [Hok.out, decide_eq_false (by omega : ¬ x.length ≤ 16)]; rfl))
        clear h16
        go_wp2_with fail
        exact Hq.out _ (hb.out)
      · have t2 : decide ((16 : Int) < (x.length : Int)) = false := decide_eq_false (by omega)
        have H16 : Hid (decide (x.length ≤ 16) = true) := decide_eq_true (by omega)
        clear h16
        cases k with
        | zero =>
          have Hq := Lib.hid (Hyes.out (by rw [Hok.out, H16.out]; rfl))
          rw [show (((0 : Nat) : Int)) = 0 from rfl]
          rw [Nat.add_zero] at ck
          go_wp2_with fail
          go_roundw
          case rel => exact ⟨1, by go_num, hlt, hb, Hq.out⟩
          case measure => simp [intOf]; omega
        | succ m =>
          obtain ⟨hml, cm⟩ := Hmk.out m rfl
          have hkp : prevK keys (m + 1) x = !(strGe keys[m] x) := by rw [prevK, List.getElem?_eq_getElem hml]
          have Hkp := Lib.hid hkp
          obtain ⟨pk, hpk⟩ := hide keys[m]
          rw [hpk.out] at cm Hkp
          clear hkp
          cases t5 : strGe pk x with
          | true =>
            have Hq := Lib.hid (Hno.out (by rw [Hok.out, H16.out, Hkp.out, t5]; rfl))
            unfold strGe at t5
            go_wp2_with fail
            exact Hq.out _ (hb.out)
          | false =>
            have Hq := Lib.hid (Hyes.out (by rw [Hok.out, H16.out, Hkp.out, t5]; rfl))
            unfold strGe at t5
            go_wp2_with fail
            go_roundw
            case rel => exact ⟨m + 1 + 1, by go_num, hlt, hb, Hq.out⟩
            case measure => simp [intOf]; omega
    · have hkn : k = keys.length := by omega
      have hall := keysB_all (l := keys) (fun i p hi hip => hx.out i p (by omega) hip)
      have hd2 : resB kind val ver keys = (inB kind 0 8 && (decide (val.length ≤ 64) && (inB ver 0 1099511627775 && decide (keys.length ≤ 32)))) := by rw [Hdef.out, hall]; rfl
      have Hd2 := Lib.hid hd2
      clear hkn hall hd2
      have t9 : decide ((keys.length : Int) ≤ 32) = decide (keys.length ≤ 32) := by simp only [decide_eq_decide]; omega
      have t8 : decide ((val.length : Int) ≤ 64) = decide (val.length ≤ 64) := by simp only [decide_eq_decide]; omega
      obtain ⟨r4, hr4⟩ := hide (decide (keys.length ≤ 32))
      obtain ⟨r2, hr2⟩ := hide (decide (val.length ≤ 64))
      rw [hr4.out] at t9 Hd2
      rw [hr2.out] at t8 Hd2
      have K1 := Lib.hid (fun w' => in_any kind 0 8 w')
      have K3 := Lib.hid (fun w' => in_any ver 0 1099511627775 w')
      obtain ⟨r1, hr1⟩ := hide (inB kind 0 8)
      obtain ⟨r3, hr3⟩ := hide (inB ver 0 1099511627775)
      rw [hr1.out] at K1 Hd2
      rw [hr3.out] at K3 Hd2
      go_wp2_with fail
      refine (K1.out _).mono ?_
      rintro e w' ⟨rfl, rfl⟩
      cases r1 with
      | false =>
        have Hq := Lib.hid (Hp.out false _ hb.out (by rw [Hd2.out]; rfl))
        go_wp2_with fail
        exact Hq.out
      | true =>
      cases r2 with
      | false =>
        have Hq := Lib.hid (Hp.out false _ hb.out (by rw [Hd2.out]; rfl))
        go_wp2_with fail
        exact Hq.out
      | true =>
      go_wp2_with fail
      refine (K3.out _).mono ?_
      rintro e w' ⟨rfl, rfl⟩
      cases r3 <;> cases r4
      all_goals
        have Hq := Lib.hid (Hp.out _ _ hb.out Hd2.out)
        go_wp2_with fail
        exact Hq.out

set_option maxHeartbeats 2000000 in
set_option maxRecDepth 100000 in
theorem ref_isResult (kind : Int) (val : List UInt8) (ver : Int) (kv : Value) (keys : List (List UInt8)) (w : World) (hv : Strs w kv keys) :
    Calls Try.prog 193 #[vRes kind val ver kv] w fun e w' => e = .returned (.bool (resB kind val ver keys)) ∧ Below w.heap.size w w' := by
  obtain ⟨ao, cap, rfl, hm⟩ := hv.slice
  obtain ⟨post, HP⟩ := hide (fun (e : Ending) (w' : World) => e = .returned (.bool (resB kind val ver keys)) ∧ Below w.heap.size w w')
  rw [HP.out]
  obtain ⟨W, hW⟩ := hide (w.alloc (.cells #[.int .i64 kind, str val, .int .i64 ver, .slice ao keys.length cap] 29))
  have hc : W.heap[w.heap.size]? = some (.cells #[.int .i64 kind, str val, .int .i64 ver, .slice ao keys.length cap] 29 (0, 0)) := by rw [← hW.out]; exact hp_at _ _ rfl
  have hb0 : Below w.heap.size w W := by rw [← hW.out]; exact (Below.refl _ _).alloc (Nat.le_refl _) _
  have HV := Lib.hid (hv.mono hb0)
  have Hx : Hid (∀ w', Below W.heap.size W w' → w'.heap[w.heap.size]? = some (.cells #[.int .i64 kind, str val, .int .i64 ver, .slice ao keys.length cap] 29 (0, 0))) := fun w' h => (h.block _ (lt_of_block hc)).trans hc
  have Hp : Hid (∀ z w', Below W.heap.size W w' → resB kind val ver keys = z → post (.returned (.bool z)) w') := by
    show ∀ z w', _ → _ → _
    intro z w' hw hz; rw [← HP.out, ← hz]; exact ⟨rfl, hb0.trans (hw.mono hb0.size)⟩
  have hdef : resB kind val ver keys = (keysB keys && (inB kind 0 8 && (decide (val.length ≤ 64) && (inB ver 0 1099511627775 && decide (keys.length ≤ 32))))) := rfl
  have Hdef := Lib.hid hdef
  obtain ⟨B, hB⟩ := hide w.heap.size
  rw [hB.out] at Hx
  have x0 := Hx.out _ (Below.refl _ _)
  have c3 := cell_n x0 3 (v := .slice ao keys.length cap) rfl
  clear hc hb0 hv hdef x0
  go_enter Try.func193, Try.ntmps193
  go_upto_region 1 with fail
  rw [hW.out, hB.out]
  go_wp2_with fail
  go_loopw [3] (fun i wr => ∃ k : Nat, i = .int .i64 k ∧ k ≤ keys.length ∧ Hid (Below W.heap.size W wr) ∧ Hid (∀ i p, i < k → keys[i]? = some p → okKey keys i p = true)) (fun i _ => keys.length - (intOf i).toNat)
  case atStart => exact ⟨0, rfl, Nat.zero_le _, Below.refl _ _, fun i p h => by omega⟩
  case round =>
    clear c3
    obtain ⟨k, rfl, hk, hb, hx⟩ := hrel
    have x0 := Hx.out _ hb.out
    have c0 := cell_n x0 0 (v := .int .i64 kind) rfl
    have c1 := cell_n x0 1 (v := str val) rfl
    have c2 := cell_n x0 2 (v := .int .i64 ver) rfl
    have c3 := cell_n x0 3 (v := .slice ao keys.length cap) rfl
    clear x0
    by_cases hlt : k < keys.length
    · obtain ⟨b, off, rfl, ck⟩ := (HV.out.mono hb.out).at hlt
      have hmk : ∀ m, k = m + 1 → ∃ hm : m < keys.length, wr.cell? ⟨b, off + m, none⟩ = some (str keys[m]) := by
        intro m e
        have hml : m < keys.length := by omega
        obtain ⟨b', off', e1, c'⟩ := (HV.out.mono hb.out).at hml
        injection e1 with e1
        injection e1 with e1 e2
        exact ⟨hml, by rw [e1, e2]; exact c'⟩
      have Hmk := Lib.hid hmk
      clear hmk
      have Hno : Hid (okKey keys k keys[k] = false → ∀ w', Below W.heap.size W w' → post (.returned (.bool false)) w') := by
        show _ → ∀ w', _ → _
        intro h w' hw
        exact Hp.out false w' hw (by rw [Hdef.out, keysB_no hlt h]; rfl)
      have Hyes : Hid (okKey keys k keys[k] = true → ∀ i p, i < k + 1 → keys[i]? = some p → okKey keys i p = true) := by
        show _ → ∀ i p, _ → _ → _
        intro h i p hi hip
        rcases Nat.lt_or_eq_of_le (Nat.le_of_lt_succ hi) with h1 | rfl
        · exact hx.out i p h1 hip
        · rw [List.getElem?_eq_getElem hlt] at hip; cases hip; exact h
      obtain ⟨x, hX⟩ := hide keys[k]
      rw [hX.out] at ck Hno Hyes
      have hok : okKey keys k x = (decide (x.length ≤ 16) && prevK keys k x) := rfl
      have Hok := Lib.hid hok
      clear hok
      by_cases h16 : 16 < x.length
      · have t2 : decide ((16 : Int) < (x.length : Int)) = true := decide_eq_true (by omega)
        have Hq := Lib.hid (Hno.out (by rw [Hok.out, decide_eq_false (by omega : ¬ x.length ≤ 16)]; rfl))
        clear h16
        go_wp2_with (go_quiet (fail))
        exact Hq.out _ (below_drewN hb.out _)
      · have t2 : decide ((16 : Int) < (x.length : Int)) = false := decide_eq_false (by omega)
        have H16 : Hid (decide (x.length ≤ 16) = true) := decide_eq_true (by omega)
        clear h16
        cases k with
        | zero =>
          have Hq := Lib.hid (Hyes.out (by rw [Hok.out, H16.out]; rfl))
          rw [show (((0 : Nat) : Int)) = 0 from rfl]
          rw [Nat.add_zero] at ck
          go_wp2_with (go_quiet (fail))
          go_roundw
          case rel => exact ⟨1, by go_num, hlt, below_drewN hb.out _, Hq.out⟩
          case measure => simp [intOf]; omega
        | succ m =>
          obtain ⟨hml, cm⟩ := Hmk.out m rfl
          have hkp : prevK keys (m + 1) x = !(strGe keys[m] x) := by rw [prevK, List.getElem?_eq_getElem hml]
          have Hkp := Lib.hid hkp
          obtain ⟨pk, hpk⟩ := hide keys[m]
          rw [hpk.out] at cm Hkp
          clear hkp
          cases t5 : strGe pk x with
          | true =>
            have Hq := Lib.hid (Hno.out (by rw [Hok.out, H16.out, Hkp.out, t5]; rfl))
            unfold strGe at t5
            go_wp2_with (go_quiet (fail))
            exact Hq.out _ (below_drewN hb.out _)
          | false =>
            have Hq := Lib.hid (Hyes.out (by rw [Hok.out, H16.out, Hkp.out, t5]; rfl))
            unfold strGe at t5
            go_wp2_with (go_quiet (fail))
            go_roundw
            case rel => exact ⟨m + 1 + 1, by go_num, hlt, below_drewN hb.out _, Hq.out⟩
            case measure => simp [intOf]; omega
    · have hkn : k = keys.length := by omega
      have hall := keysB_all (l := keys) (fun i p hi hip => hx.out i p (by omega) hip)
      have hd2 : resB kind val ver keys = (inB kind 0 8 && (decide (val.length ≤ 64) && (inB ver 0 1099511627775 && decide (keys.length ≤ 32)))) := by rw [Hdef.out, hall]; rfl
      have Hd2 := Lib.hid hd2
      clear hkn hall hd2
      have t9 : decide ((keys.length : Int) ≤ 32) = decide (keys.length ≤ 32) := by simp only [decide_eq_decide]; omega
      have t8 : decide ((val.length : Int) ≤ 64) = decide (val.length ≤ 64) := by simp only [decide_eq_decide]; omega
      obtain ⟨r4, hr4⟩ := hide (decide (keys.length ≤ 32))
      obtain ⟨r2, hr2⟩ := hide (decide (val.length ≤ 64))
      rw [hr4.out] at t9 Hd2
      rw [hr2.out] at t8 Hd2
      have t1 : decide ((0 : Int) ≤ kind) = decide ((0 : Int) ≤ kind) := rfl
      obtain ⟨a1, ha1⟩ := hide (decide ((0 : Int) ≤ kind))
      obtain ⟨a2, ha2⟩ := hide (decide (kind ≤ 8))
      obtain ⟨a3, ha3⟩ := hide (decide ((0 : Int) ≤ ver))
      obtain ⟨a4, ha4⟩ := hide (decide (ver ≤ 1099511627775))
      have e1 : inB kind 0 8 = (a1 && a2) := by rw [← ha1.out, ← ha2.out]; rfl
      have e2 : inB ver 0 1099511627775 = (a3 && a4) := by rw [← ha3.out, ← ha4.out]; rfl
      rw [e1, e2] at Hd2
      clear e1 e2 t1
      have u1 : decide ((0 : Int) ≤ kind) = a1 := ha1.out
      have u2 : decide (kind ≤ 8) = a2 := ha2.out
      have u3 : decide ((0 : Int) ≤ ver) = a3 := ha3.out
      have u4 : decide (ver ≤ 1099511627775) = a4 := ha4.out
      cases a1 with
      | false =>
        have Hq := Lib.hid (Hp.out false _ hb.out (by rw [Hd2.out]; rfl))
        go_wp2_with fail
        exact Hq.out
      | true =>
      cases a2 with
      | false =>
        have Hq := Lib.hid (Hp.out false _ hb.out (by rw [Hd2.out]; rfl))
        go_wp2_with fail
        exact Hq.out
      | true =>
      cases r2 with
      | false =>
        have Hq := Lib.hid (Hp.out false _ hb.out (by rw [Hd2.out]; rfl))
        go_wp2_with fail
        exact Hq.out
      | true =>
      cases a3 with
      | false =>
        have Hq := Lib.hid (Hp.out false _ hb.out (by rw [Hd2.out]; rfl))
        go_wp2_with fail
        exact Hq.out
      | true =>
      cases a4 with
      | false =>
        have Hq := Lib.hid (Hp.out false _ hb.out (by rw [Hd2.out]; rfl))
        go_wp2_with fail
        exact Hq.out
      | true =>
      cases r4
      all_goals
        have Hq := Lib.hid (Hp.out _ _ hb.out Hd2.out)
        go_wp2_with fail
        exact Hq.out
end Go.Proofs.Ytidiodlemjeelaa

namespace Go.Proofs.Ytidiodlemjeelaa
open Go.RowKit Wm Mm
set_option linter.unusedVariables false

structure SessP where
  client : Int
  last : Int
  kind : Int
  val : List UInt8
  ver : Int
  keys : List (List UInt8)
  seen : Int
abbrev rowSess (s : SessP) (kv : Value) : List Value := [.int .i64 s.client, .int .i64 s.last, .int .i64 s.kind, str s.val, .int .i64 s.ver, kv, .int .i64 s.seen]
abbrev SessR (w : World) (vs : List Value) (s : SessP) : Prop := ∃ kv, vs = rowSess s kv ∧ Strs w kv s.keys
abbrev Sessions (w : World) (v : Value) (l : List SessP) : Prop := RecsP 7 SessR w v l
theorem Sessions.mono {w w' : World} {v : Value} {l : List SessP} (h : Sessions w v l) (hb : Below w.heap.size w w') : Sessions w' v l :=
  RecsP.mono (fun vs x ⟨kv, h1, h2⟩ => ⟨kv, h1, h2.mono hb⟩) h hb
theorem Sessions.at {w : World} {a : Option Addr} {n c : Nat} {l : List SessP} (h : Sessions w (.slice a n c) l) {k : Nat} (hk : k < l.length) : ∃ b off kv, a = some ⟨b, off, none⟩ ∧ Strs w kv l[k].keys ∧ (∀ i u, (rowSess l[k] kv)[i]? = some u → w.cell? ⟨b, off + k * 7 + i, none⟩ = some u) := by
  obtain ⟨ao, cap, he, h1, h2⟩ := h
  obtain ⟨b, off, rfl, h3⟩ := h1 (pairs_ne hk)
  injection he with e1 e2 e3
  obtain ⟨vs, _, ⟨kv, rfl, h5⟩, h4⟩ := h3 k l[k] (by simp [hk])
  exact ⟨b, off, kv, e1, h5, h4⟩
def prevC (l : List SessP) : Nat → Int → Bool
  | 0, _ => true
  | j + 1, x => match l[j]? with | none => true | some y => decide (y.client < x)
def okSess (time : Int) (l : List SessP) (i : Nat) (s : SessP) : Bool := inB s.client 1 1099511627775 && (prevC l i s.client && (inB s.last 0 1099511627775 && (inB s.seen 0 time && resB s.kind s.val s.ver s.keys)))
def sessB (time : Int) (l : List SessP) : Bool := (List.range l.length).all (fun i => match l[i]? with | none => true | some p => okSess time l i p)
structure Tab where
  pairs : List PairP
  sess : List SessP
  time : Int
def tabB (t : Tab) : Bool := pairsB t.pairs && (decide (t.sess.length ≤ 8) && (inB t.time 0 1099511627775 && sessB t.time t.sess))
/-- two slices are this table -/
structure Table2 (w : World) (vp vs : Value) (t : Tab) : Prop where
  p : Pairs w vp t.pairs
  s : Sessions w vs t.sess
theorem Table2.mono {w w' : World} {vp vs : Value} {t : Tab} (h : Table2 w vp vs t) (hb : Below w.heap.size w w') : Table2 w' vp vs t := ⟨h.p.mono hb, h.s.mono hb⟩
theorem sessB_no {time : Int} {l : List SessP} {k : Nat} (hk : k < l.length) (h : okSess time l k l[k] = false) : sessB time l = false := by
  rw [sessB, List.all_eq_false]
  exact ⟨k, List.mem_range.2 hk, by rw [List.getElem?_eq_getElem hk]; simp [h]⟩
theorem sessB_all {time : Int} {l : List SessP} (h : ∀ i p, i < l.length → l[i]? = some p → okSess time l i p = true) : sessB time l = true := by
  rw [sessB, List.all_eq_true]
  intro i hi
  have hl := List.mem_range.1 hi
  rw [List.getElem?_eq_getElem hl]
  exact h i _ hl (by simp [hl])

set_option maxHeartbeats 4000000 in
set_option maxRecDepth 100000 in
theorem wire_isTable (vp vs : Value) (t : Tab) (w : World) (ht : Table2 w vp vs t) :
    Calls Try.prog 93 #[.agg #[vp, vs, .int .i64 t.time]] w fun e w' => e = .returned (.bool (tabB t)) ∧ Below w.heap.size w w' := by
  obtain ⟨po, pcap, rfl, hpm⟩ := ht.p.slice
  obtain ⟨so, scap, rfl, hm⟩ := ht.s.slice
  obtain ⟨vp, hvp⟩ : ∃ v, v = Value.slice po t.pairs.length pcap := ⟨_, rfl⟩
  obtain ⟨post, HP⟩ := hide (fun (e : Ending) (w' : World) => e = .returned (.bool (tabB t)) ∧ Below w.heap.size w w')
  rw [HP.out]
  obtain ⟨W, hW⟩ := hide (w.alloc (.cells #[.slice po t.pairs.length pcap, .slice so t.sess.length scap, .int .i64 t.time] 25))
  have hc : W.heap[w.heap.size]? = some (.cells #[.slice po t.pairs.length pcap, .slice so t.sess.length scap, .int .i64 t.time] 25 (0, 0)) := by rw [← hW.out]; exact hp_at _ _ rfl
  have hb0 : Below w.heap.size w W := by rw [← hW.out]; exact (Below.refl _ _).alloc (Nat.le_refl _) _
  have HT := Lib.hid (ht.mono hb0)
  have Hx : Hid (∀ w', Below W.heap.size W w' → w'.heap[w.heap.size]? = some (.cells #[.slice po t.pairs.length pcap, .slice so t.sess.length scap, .int .i64 t.time] 25 (0, 0))) := fun w' h => (h.block _ (lt_of_block hc)).trans hc
  have Hp : Hid (∀ z w', Below W.heap.size W w' → tabB t = z → post (.returned (.bool z)) w') := by
    show ∀ z w', _ → _ → _
    intro z w' hw hz; rw [← HP.out, ← hz]; exact ⟨rfl, hb0.trans (hw.mono hb0.size)⟩
  have hdef : tabB t = (pairsB t.pairs && (decide (t.sess.length ≤ 8) && (inB t.time 0 1099511627775 && sessB t.time t.sess))) := rfl
  have Hdef := Lib.hid hdef
  obtain ⟨B, hB⟩ := hide w.heap.size
  rw [hB.out] at Hx
  obtain ⟨r1, hr1⟩ := hide (pairsB t.pairs)
  rw [hr1.out] at Hdef
  have hp1 : ∀ w', Below W.heap.size W w' → Calls Try.prog 178 #[.slice po t.pairs.length pcap] w' fun e w'' => e = .returned (.bool r1) ∧ Below w'.heap.size w' w'' := fun w' h => by
    have := wire_isPairs _ t.pairs w' ((ht.mono hb0).p.mono h)
    rwa [hr1.out] at this
  have HP1 := Lib.hid hp1
  clear hc hb0 ht hdef hp1 hvp vp
  have t8 : decide ((8 : Int) < (t.sess.length : Int)) = !(decide (t.sess.length ≤ 8)) := by rw [← decide_not]; simp only [decide_eq_decide]; omega
  obtain ⟨r2, hr2⟩ := hide (decide (t.sess.length ≤ 8))
  rw [hr2.out] at t8 Hdef
  have K3 := Lib.hid (fun w' => in_any t.time 0 1099511627775 w')
  obtain ⟨r3, hr3⟩ := hide (inB t.time 0 1099511627775)
  rw [hr3.out] at K3 Hdef
  have x0 := Hx.out _ (Below.refl _ _)
  have b0 := cell_n x0 0 (v := .slice po t.pairs.length pcap) rfl
  have b1 := cell_n x0 1 (v := .slice so t.sess.length scap) rfl
  have b2 := cell_n x0 2 (v := .int .i64 t.time) rfl
  clear x0
  go_enter Try.func93, Try.ntmps93
  go_upto_region 1 with fail
  rw [hW.out, hB.out]
  go_wp2_with fail
  refine (HP1.out _ (Below.refl _ _)).mono ?_
  rintro e w1 ⟨rfl, hb1⟩
  have Hb1 := Lib.hid hb1
  clear hb1 b0 b1 b2
  have x0 := Hx.out _ Hb1.out
  have b0 := cell_n x0 0 (v := .slice po t.pairs.length pcap) rfl
  have b1 := cell_n x0 1 (v := .slice so t.sess.length scap) rfl
  have b2 := cell_n x0 2 (v := .int .i64 t.time) rfl
  clear x0
  cases r1 with
  | false =>
    have Hq := Lib.hid (Hp.out false _ Hb1.out (by rw [Hdef.out]; rfl))
    go_wp2_with fail
    exact Hq.out
  | true =>
  cases r2 with
  | false =>
    have Hq := Lib.hid (Hp.out false _ Hb1.out (by rw [Hdef.out]; rfl))
    go_wp2_with fail
    exact Hq.out
  | true =>
  go_wp2_with fail
  refine (K3.out _).mono ?_
  rintro e w' ⟨rfl, rfl⟩
  cases r3 with
  | false =>
    have Hq := Lib.hid (Hp.out false _ Hb1.out (by rw [Hdef.out]; rfl))
    go_wp2_with fail
    exact Hq.out
  | true =>
  have hd2 : tabB t = sessB t.time t.sess := by rw [Hdef.out]; rfl
  have Hd2 := Lib.hid hd2
  clear hd2
  go_wp2_with fail
  clear b0 b1 b2
  go_loopw [24] (fun i wr => ∃ k : Nat, i = .int .i64 k ∧ k ≤ t.sess.length ∧ Hid (Below W.heap.size W wr) ∧ Hid (∀ i p, i < k → t.sess[i]? = some p → okSess t.time t.sess i p = true)) (fun i _ => t.sess.length - (intOf i).toNat)
  case atStart => exact ⟨0, rfl, Nat.zero_le _, Hb1.out, fun i p h => by omega⟩
  case round =>
    obtain ⟨k, rfl, hk, hb, hx⟩ := hrel
    by_cases hlt : k < t.sess.length
    · obtain ⟨b, off, kv, rfl, hks, hcs⟩ := (HT.out.mono hb.out).s.at hlt
      have hmk : ∀ m, k = m + 1 → ∃ hm : m < t.sess.length, wr.cell? ⟨b, off + m * 7, none⟩ = some (.int .i64 t.sess[m].client) := by
        intro m e
        have hml : m < t.sess.length := by omega
        obtain ⟨b', off', kv', e1, _, c'⟩ := (HT.out.mono hb.out).s.at hml
        injection e1 with e1
        injection e1 with e1 e2
        exact ⟨hml, by rw [e1, e2]; exact c' 0 _ rfl⟩
      have Hmk := Lib.hid hmk
      clear hmk
      have Hno : Hid (okSess t.time t.sess k t.sess[k] = false → ∀ w', Below W.heap.size W w' → post (.returned (.bool false)) w') := by
        show _ → ∀ w', _ → _
        intro h w' hw
        exact Hp.out false w' hw (by rw [Hd2.out, sessB_no hlt h])
      have Hyes : Hid (okSess t.time t.sess k t.sess[k] = true → ∀ i p, i < k + 1 → t.sess[i]? = some p → okSess t.time t.sess i p = true) := by
        show _ → ∀ i p, _ → _ → _
        intro h i p hi hip
        rcases Nat.lt_or_eq_of_le (Nat.le_of_lt_succ hi) with h1 | rfl
        · exact hx.out i p h1 hip
        · rw [List.getElem?_eq_getElem hlt] at hip; cases hip; exact h
      obtain ⟨x, hX⟩ := hide t.sess[k]
      rw [hX.out] at hks hcs Hno Hyes
      obtain ⟨client, last, kind, val, ver, keys, seen⟩ := x
      simp only [] at hks hcs
      obtain ⟨ko, kcap, rfl, _⟩ := hks.slice
      have d0 := hcs 0 (.int .i64 client) rfl
      have d1 := hcs 1 (.int .i64 last) rfl
      have d2 := hcs 2 (.int .i64 kind) rfl
      have d3 := hcs 3 (str val) rfl
      have d4 := hcs 4 (.int .i64 ver) rfl
      have d5 := hcs 5 (.slice ko keys.length kcap) rfl
      have d6 := hcs 6 (.int .i64 seen) rfl
      rw [Nat.add_zero] at d0
      have hok : okSess t.time t.sess k ⟨client, last, kind, val, ver, keys, seen⟩ = (inB client 1 1099511627775 && (prevC t.sess k client && (inB last 0 1099511627775 && (inB seen 0 t.time && resB kind val ver keys)))) := rfl
      have Hok := Lib.hid hok
      have Hks := Lib.hid hks
      obtain ⟨W1, hW1⟩ := hide (wr.alloc (.cells #[.int .i64 client, .int .i64 last, .int .i64 kind, str val, .int .i64 ver, .slice ko keys.length kcap, .int .i64 seen] 136))
      have hq : W1.heap[wr.heap.size]? = some (.cells #[.int .i64 client, .int .i64 last, .int .i64 kind, str val, .int .i64 ver, .slice ko keys.length kcap, .int .i64 seen] 136 (0, 0)) := by rw [← hW1.out]; exact hp_at _ _ rfl
      have hbW : Below W.heap.size W W1 := by rw [← hW1.out]; exact hb.out.alloc hb.out.size _
      have hal : Below wr.heap.size wr W1 := by rw [← hW1.out]; exact (Below.refl _ _).alloc (Nat.le_refl _) _
      have Hal := Lib.hid hal
      have Hq1 := Lib.hid hq
      have HbW := Lib.hid hbW
      clear hok hks hcs hq hbW hal
      go_upto_region 6 with fail
      rw [hW1.out]
      obtain ⟨Q, hQ⟩ := hide wr.heap.size
      rw [hQ.out] at Hq1 ⊢
      clear d0 d1 d2 d3 d4 d5 d6
      have hd1 : Below W.heap.size W W1.drew := HbW.out.drew
      have Hd1 := Lib.hid hd1
      clear hd1
      go_cut [68] (fun r wx => r = .bool (!(okSess t.time t.sess k ⟨client, last, kind, val, ver, keys, seen⟩)) ∧ Hid (Below W.heap.size W wx))
      case first =>
        have below_eq : ∀ (n low high : Int) (w' : World), Calls Try.prog 132 #[.int .i64 n, .int .i64 low, .int .i64 high] w' fun e w'' => e = .returned (.bool (inB n low high)) ∧ Below w'.heap.size w' w'' := fun n low high w' => (in_any n low high w').mono fun e w'' h => ⟨h.1, by rw [← h.2]; exact Below.refl _ _⟩
        have J1 := Lib.hid (fun w' => below_eq client 1 1099511627775 w')
        have J2 := Lib.hid (fun w' => below_eq last 0 1099511627775 w')
        have J3 := Lib.hid (fun w' => below_eq seen 0 t.time w')
        clear below_eq
        obtain ⟨a1, ha1⟩ := hide (inB client 1 1099511627775)
        obtain ⟨a2, ha2⟩ := hide (inB last 0 1099511627775)
        obtain ⟨a3, ha3⟩ := hide (inB seen 0 t.time)
        rw [ha1.out] at J1 Hok
        rw [ha2.out] at J2 Hok
        rw [ha3.out] at J3 Hok
        have KR : ∀ (dd : Nat) (os : Array Obj), Calls Try.prog 179 #[vRes kind val ver (.slice ko keys.length kcap)] (Sort.grow (redrawn W1 dd) os) fun e w'' => e = .returned (.bool (resB kind val ver keys)) ∧ Below (Sort.grow (redrawn W1 dd) os).heap.size (Sort.grow (redrawn W1 dd) os) w'' := fun dd os => wire_isResult kind val ver _ keys _ ((Hks.out.mono Hal.out).mono (below_regrown W1 dd os))
        obtain ⟨a5, ha5⟩ := hide (resB kind val ver keys)
        rw [ha5.out] at KR Hok
        have KR := Lib.hid KR
        have HbG : Hid (∀ (dd : Nat) (os : Array Obj), Below W.heap.size W (Sort.grow (redrawn W1 dd) os)) := fun dd os => HbW.out.trans ((below_regrown W1 dd os).mono HbW.out.size)
        have x0 := Hx.out _ HbW.out
        have b1 := fun (dd : Nat) (os : Array Obj) => cell_regrown (cell_n x0 1 (v := .slice (some ⟨b, off, none⟩) t.sess.length scap) rfl) dd os
        have b2 := fun (dd : Nat) (os : Array Obj) => cell_regrown (cell_n x0 2 (v := .int .i64 t.time) rfl) dd os
        clear x0
        have q0 := fun (dd : Nat) (os : Array Obj) => cell_regrown (cell_n Hq1.out 0 (v := .int .i64 client) rfl) dd os
        have q1 := fun (dd : Nat) (os : Array Obj) => cell_regrown (cell_n Hq1.out 1 (v := .int .i64 last) rfl) dd os
        have q2 := fun (dd : Nat) (os : Array Obj) => cell_regrown (cell_n Hq1.out 2 (v := .int .i64 kind) rfl) dd os
        have q3 := fun (dd : Nat) (os : Array Obj) => cell_regrown (cell_n Hq1.out 3 (v := str val) rfl) dd os
        have q4 := fun (dd : Nat) (os : Array Obj) => cell_regrown (cell_n Hq1.out 4 (v := .int .i64 ver) rfl) dd os
        have q5 := fun (dd : Nat) (os : Array Obj) => cell_regrown (cell_n Hq1.out 5 (v := .slice ko keys.length kcap) rfl) dd os
        have q6 := fun (dd : Nat) (os : Array Obj) => cell_regrown (cell_n Hq1.out 6 (v := .int .i64 seen) rfl) dd os
        cases a1 with
        | false =>
          refine wp_region_quiet_below (by kernel_rfl) (by kernel_rfl) ?_
          repeat (go_big_quiet_step (first | (go_at_call 132; first | with_reducible refine Calls.regrown_of (J1.out _) | with_reducible refine Calls.regrown_of (J2.out _) | with_reducible refine Calls.regrown_of (J3.out _)) | (go_at_call 179; with_reducible refine Calls.regrown_of (KR.out _ _))))
          refine wpQuiet_nil ?_
          intro _ hw'
          obtain ⟨⟨dq, osq⟩, hw''⟩ := hw'
          subst hw''
          go_wp2
          go_meet
          exact ⟨by rw [Hok.out]; first | rfl | simp, HbG.out _ _⟩
        | true =>
        cases k with
        | zero =>
          rw [show (((0 : Nat) : Int)) = 0 from rfl]
          have hkp : prevC t.sess 0 client = true := rfl
          have Hkp := Lib.hid hkp
          clear hkp
          cases a2 with
          | false =>
            refine wp_region_quiet_below (by kernel_rfl) (by kernel_rfl) ?_
            repeat (go_big_quiet_step (first | (go_at_call 132; first | with_reducible refine Calls.regrown_of (J1.out _) | with_reducible refine Calls.regrown_of (J2.out _) | with_reducible refine Calls.regrown_of (J3.out _)) | (go_at_call 179; with_reducible refine Calls.regrown_of (KR.out _ _))))
            refine wpQuiet_nil ?_
            intro _ hw'
            obtain ⟨⟨dq, osq⟩, hw''⟩ := hw'
            subst hw''
            go_wp2
            go_meet
            exact ⟨by rw [Hok.out, Hkp.out]; first | rfl | simp, HbG.out _ _⟩
          | true =>
          cases a3 with
          | false =>
            refine wp_region_quiet_below (by kernel_rfl) (by kernel_rfl) ?_
            repeat (go_big_quiet_step (first | (go_at_call 132; first | with_reducible refine Calls.regrown_of (J1.out _) | with_reducible refine Calls.regrown_of (J2.out _) | with_reducible refine Calls.regrown_of (J3.out _)) | (go_at_call 179; with_reducible refine Calls.regrown_of (KR.out _ _))))
            refine wpQuiet_nil ?_
            intro _ hw'
            obtain ⟨⟨dq, osq⟩, hw''⟩ := hw'
            subst hw''
            go_wp2
            go_meet
            exact ⟨by rw [Hok.out, Hkp.out]; first | rfl | simp, HbG.out _ _⟩
          | true =>
          refine wp_region_quiet_below (by kernel_rfl) (by kernel_rfl) ?_
          repeat (go_big_quiet_step (first | (go_at_call 132; first | with_reducible refine Calls.regrown_of (J1.out _) | with_reducible refine Calls.regrown_of (J2.out _) | with_reducible refine Calls.regrown_of (J3.out _)) | (go_at_call 179; with_reducible refine Calls.regrown_of (KR.out _ _))))
          refine wpQuiet_nil ?_
          intro _ hw'
          obtain ⟨⟨dq, osq⟩, hw''⟩ := hw'
          subst hw''
          go_wp2
          go_meet
          exact ⟨by rw [Hok.out, Hkp.out]; first | rfl | simp, HbG.out _ _⟩
        | succ m =>
        obtain ⟨hml, cm⟩ := Hmk.out m rfl
        have hkp : prevC t.sess (m + 1) client = decide (t.sess[m].client < client) := by rw [prevC, List.getElem?_eq_getElem hml]
        obtain ⟨pc, hpc⟩ := hide t.sess[m].client
        rw [hpc.out] at cm hkp
        have cm0 : W1.cell? ⟨b, off + m * 7, none⟩ = some (.int .i64 pc) := by rw [← hW1.out, World.cell?_alloc_lt _ _ _ (World.block_lt_of_cell? _ _ cm)]; exact cm
        have cm1 := fun (dd : Nat) (os : Array Obj) => cell_regrown cm0 dd os
        have hmi : (m : Int) < (t.sess.length : Int) := by omega
        have Hkp := Lib.hid hkp
        clear cm hkp cm0
        by_cases hpcc : client ≤ pc
        · have t5 : decide (client ≤ pc) = true := decide_eq_true hpcc
          have Hf : Hid (decide (pc < client) = false) := decide_eq_false (by omega)
          clear hpcc
          refine wp_region_quiet_below (by kernel_rfl) (by kernel_rfl) ?_
          repeat (go_big_quiet_step (first | (go_at_call 132; first | with_reducible refine Calls.regrown_of (J1.out _) | with_reducible refine Calls.regrown_of (J2.out _) | with_reducible refine Calls.regrown_of (J3.out _)) | (go_at_call 179; with_reducible refine Calls.regrown_of (KR.out _ _))))
          refine wpQuiet_nil ?_
          intro _ hw'
          obtain ⟨⟨dq, osq⟩, hw''⟩ := hw'
          subst hw''
          go_wp2
          go_meet
          exact ⟨by rw [Hok.out, Hkp.out, Hf.out]; first | rfl | simp, HbG.out _ _⟩
        have t5 : decide (client ≤ pc) = false := decide_eq_false hpcc
        have Hf : Hid (decide (pc < client) = true) := decide_eq_true (by omega)
        clear hpcc
        cases a2 with
        | false =>
          refine wp_region_quiet_below (by kernel_rfl) (by kernel_rfl) ?_
          repeat (go_big_quiet_step (first | (go_at_call 132; first | with_reducible refine Calls.regrown_of (J1.out _) | with_reducible refine Calls.regrown_of (J2.out _) | with_reducible refine Calls.regrown_of (J3.out _)) | (go_at_call 179; with_reducible refine Calls.regrown_of (KR.out _ _))))
          refine wpQuiet_nil ?_
          intro _ hw'
          obtain ⟨⟨dq, osq⟩, hw''⟩ := hw'
          subst hw''
          go_wp2
          go_meet
          exact ⟨by rw [Hok.out, Hkp.out, Hf.out]; first | rfl | simp, HbG.out _ _⟩
        | true =>
        cases a3 with
        | false =>
          refine wp_region_quiet_below (by kernel_rfl) (by kernel_rfl) ?_
          repeat (go_big_quiet_step (first | (go_at_call 132; first | with_reducible refine Calls.regrown_of (J1.out _) | with_reducible refine Calls.regrown_of (J2.out _) | with_reducible refine Calls.regrown_of (J3.out _)) | (go_at_call 179; with_reducible refine Calls.regrown_of (KR.out _ _))))
          refine wpQuiet_nil ?_
          intro _ hw'
          obtain ⟨⟨dq, osq⟩, hw''⟩ := hw'
          subst hw''
          go_wp2
          go_meet
          exact ⟨by rw [Hok.out, Hkp.out, Hf.out]; first | rfl | simp, HbG.out _ _⟩
        | true =>
        refine wp_region_quiet_below (by kernel_rfl) (by kernel_rfl) ?_
        repeat (go_big_quiet_step (first | (go_at_call 132; first | with_reducible refine Calls.regrown_of (J1.out _) | with_reducible refine Calls.regrown_of (J2.out _) | with_reducible refine Calls.regrown_of (J3.out _)) | (go_at_call 179; with_reducible refine Calls.regrown_of (KR.out _ _))))
        refine wpQuiet_nil ?_
        intro _ hw'
        obtain ⟨⟨dq, osq⟩, hw''⟩ := hw'
        subst hw''
        go_wp2
        go_meet
        exact ⟨by rw [Hok.out, Hkp.out, Hf.out]; first | rfl | simp, HbG.out _ _⟩
      case rest =>
        obtain ⟨rfl, hbx⟩ := hcut
        cases hokk : okSess t.time t.sess k ⟨client, last, kind, val, ver, keys, seen⟩ with
        | true =>
          have Hq := Lib.hid (Hyes.out hokk)
          clear hokk
          go_wp2_with fail
          go_roundw
          case rel => exact ⟨k + 1, by go_num, hlt, hbx, Hq.out⟩
          case measure => simp [intOf]; omega
        | false =>
          have Hq := Lib.hid (Hno.out hokk _ hbx.out)
          clear hokk
          go_wp2_with fail
          exact Hq.out
    · have hkn : k = t.sess.length := by omega
      have Hq := Lib.hid (Hp.out true _ hb.out (by rw [Hd2.out]; exact sessB_all (fun i p hi hip => hx.out i p (by omega) hip)))
      clear hkn
      go_wp2_with fail
      exact Hq.out
end Go.Proofs.Ytidiodlemjeelaa
