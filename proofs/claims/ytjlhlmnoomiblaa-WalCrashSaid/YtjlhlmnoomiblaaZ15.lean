/-
  May a configuration be? both ways; are two the same? Lists of integers in memory that was laid later than a point; configurations of such.
-/
import Derived.Test.YtjlhlmnoomiblaaZ14
import Derived.Deep.RegionWith
import Derived.Deep.DeepCutAuto
namespace Go.Proofs.Ytjlhlmnoomiblaa
open Go.RowKit Wm Mm
set_option linter.unusedVariables false

structure Conf where
  v : List Int
  n : List Int
  l : List Int
/-- may a configuration be? -/
def validB (c : Conf) : Bool := !(decide (c.v.length = 0)) && (risingB c.v && (risingB c.n && (risingB c.l && c.l.all fun x => !(hasB c.v x) && !(hasB c.n x))))
/-- three slices are this configuration -/
structure Config3 (w : World) (a b d : Value) (c : Conf) : Prop where
  v : Ints w a c.v
  n : Ints w b c.n
  l : Ints w d c.l
theorem Config3.mono {w w' : World} {a b d : Value} {c : Conf} (h : Config3 w a b d c) (hb : Below w.heap.size w w') : Config3 w' a b d c := ⟨h.v.mono hb, h.n.mono hb, h.l.mono hb⟩

theorem len_of_Ints {w : World} {v : Value} {l : List Int} (h : Ints w v l) : ∃ ao cap, v = .slice ao l.length cap ∧ l.length ≤ 9223372036854775807 := by
  obtain ⟨ao, cap, rfl, _, hm⟩ := h
  exact ⟨ao, cap, rfl, hm⟩
theorem all_no {c : Conf} {k : Nat} (hk : k < c.l.length) (h : (hasB c.v c.l[k] || hasB c.n c.l[k]) = true) : (c.l.all fun x => !(hasB c.v x) && !(hasB c.n x)) = false := by
  rw [List.all_eq_false]
  exact ⟨c.l[k], List.getElem_mem _, by rw [← Bool.not_or, h]; simp⟩
theorem all_yes {c : Conf} (h : ∀ i x, i < c.l.length → c.l[i]? = some x → (hasB c.v x || hasB c.n x) = false) : (c.l.all fun x => !(hasB c.v x) && !(hasB c.n x)) = true := by
  rw [List.all_eq_true]
  intro x hx
  obtain ⟨i, hi, rfl⟩ := List.getElem_of_mem hx
  rw [← Bool.not_or, h i c.l[i] hi (by simp)]; rfl

set_option maxHeartbeats 2000000 in
theorem config_valid (a b d : Value) (c : Conf) (w : World) (hc : Config3 w a b d c) :
    Calls Try.prog 19 #[.agg #[a, b, d]] w fun e w' => e = .returned (.bool (validB c)) ∧ Below w.heap.size w w' := by
  obtain ⟨post, HP⟩ := hide (fun (e : Ending) (w' : World) => e = .returned (.bool (validB c)) ∧ Below w.heap.size w w')
  rw [HP.out]
  have hb1 : Below w.heap.size w (w.alloc (.cells #[a, b, d] 24)) := (Below.refl _ _).alloc (Nat.le_refl _) _
  obtain ⟨W, hW⟩ := hide (w.alloc (.cells #[a, b, d] 24))
  have hc1 : Config3 W a b d c := by rw [← hW.out]; exact hc.mono ((Below.refl _ _).alloc (Nat.le_refl _) _)
  have hx : W.heap[w.heap.size]? = some (.cells #[a, b, d] 24 (0, 0)) := by rw [← hW.out]; exact hp_at _ _ rfl
  rw [hW.out] at hb1
  have Hp : Hid (∀ z, validB c = z → post (.returned (.bool z)) W) := by
    show ∀ z, _ → _
    intro z hz; rw [← HP.out, ← hz]; exact ⟨rfl, hb1⟩
  have HC := Lib.hid hc1
  obtain ⟨B, hB⟩ := hide w.heap.size
  rw [hB.out] at hx
  have c0 : W.cell? ⟨B, 0, none⟩ = some a := cell_n hx 0 rfl
  have c1 : W.cell? ⟨B, 1, none⟩ = some b := cell_n hx 1 rfl
  have c2 : W.cell? ⟨B, 2, none⟩ = some d := cell_n hx 2 rfl
  have HN1 := Lib.hid (wire_nodes a c.v W hc1.v)
  have HN2 := Lib.hid (wire_nodes b c.n W hc1.n)
  have HN3 := Lib.hid (wire_nodes d c.l W hc1.l)
  have HS1 := Lib.hid (fun x => slices_contains a c.v x W hc1.v)
  have HS2 := Lib.hid (fun x => slices_contains b c.n x W hc1.n)
  obtain ⟨ao, ca, rfl, hla⟩ := len_of_Ints hc1.v
  obtain ⟨bo, cb, rfl, hlb⟩ := len_of_Ints hc1.n
  have hld : c.l.length ≤ 9223372036854775807 := by obtain ⟨_, _, _, h⟩ := len_of_Ints hc1.l; exact h
  obtain ⟨dd, cd, rfl, hcl, _⟩ := hc1.l
  have e0 : validB c = (!(decide (c.v.length = 0)) && (risingB c.v && (risingB c.n && (risingB c.l && c.l.all fun x => !(hasB c.v x) && !(hasB c.n x))))) := rfl
  have E0 := Lib.hid e0
  have HCl := Lib.hid hcl
  clear hb1 hc hc1 hx e0 hcl
  obtain ⟨r1, hr1⟩ := hide (risingB c.v)
  obtain ⟨r2, hr2⟩ := hide (risingB c.n)
  obtain ⟨r3, hr3⟩ := hide (risingB c.l)
  rw [hr1.out] at HN1 E0
  rw [hr2.out] at HN2 E0
  rw [hr3.out] at HN3 E0
  by_cases h0 : c.v.length = 0
  · have t0 : ((c.v.length : Int) == 0) = true := by simp [h0]
    have Hq := Lib.hid (Hp.out false (by rw [E0.out, decide_eq_true h0]; rfl))
    clear h0
    go_enter Try.func19, Try.ntmps19
    go_wp2_with fail
    rw [hW.out, hB.out]
    go_wp2_with fail
    exact Hq.out
  · have t0 : ((c.v.length : Int) == 0) = false := by simp [h0]
    have e1 : validB c = (r1 && (r2 && (r3 && c.l.all fun x => !(hasB c.v x) && !(hasB c.n x)))) := by rw [E0.out, decide_eq_false h0]; rfl
    have E1 := Lib.hid e1
    clear h0 e1 E0
    go_enter Try.func19, Try.ntmps19
    go_wp2_with fail
    rw [hW.out, hB.out]
    go_wp2_with fail
    refine HN1.out.mono ?_
    rintro e w' ⟨rfl, rfl⟩
    cases r1 with
    | false =>
      have Hq := Lib.hid (Hp.out false (by rw [E1.out]; rfl))
      go_wp2_with fail
      exact Hq.out
    | true =>
    go_wp2_with fail
    refine HN2.out.mono ?_
    rintro e w' ⟨rfl, rfl⟩
    cases r2 with
    | false =>
      have Hq := Lib.hid (Hp.out false (by rw [E1.out]; rfl))
      go_wp2_with fail
      exact Hq.out
    | true =>
    go_wp2_with fail
    refine HN3.out.mono ?_
    rintro e w' ⟨rfl, rfl⟩
    cases r3 with
    | false =>
      have Hq := Lib.hid (Hp.out false (by rw [E1.out]; rfl))
      go_wp2_with fail
      exact Hq.out
    | true =>
    go_wp2_with fail
    go_loopw [30] (fun i wr => ∃ k : Nat, i = .int .i64 k ∧ k ≤ c.l.length ∧ wr = W ∧ Hid (∀ i x, i < k → c.l[i]? = some x → (hasB c.v x || hasB c.n x) = false)) (fun i _ => c.l.length - (intOf i).toNat)
    case atStart => exact ⟨0, rfl, Nat.zero_le _, rfl, fun i x h => by omega⟩
    case round =>
      obtain ⟨k, rfl, hk, rfl, hx⟩ := hrel
      by_cases hlt : k < c.l.length
      · obtain ⟨b, off, rfl, hcell⟩ := HCl.out (ints_ne' hlt)
        have hck := hcell k c.l[k] (by simp [hlt])
        have Hyes : Hid ((hasB c.v c.l[k] || hasB c.n c.l[k]) = true → post (.returned (.bool false)) wr) := by
          show _ → _
          intro h
          exact Hp.out false (by rw [E1.out, all_no hlt h]; rfl)
        have Hno : Hid ((hasB c.v c.l[k] || hasB c.n c.l[k]) = false → ∀ i x, i < k + 1 → c.l[i]? = some x → (hasB c.v x || hasB c.n x) = false) := by
          show _ → ∀ i x, _ → _ → _
          intro h i x hi hix
          rcases Nat.lt_or_eq_of_le (Nat.le_of_lt_succ hi) with h1 | rfl
          · exact hx.out i x h1 hix
          · rw [List.getElem?_eq_getElem hlt] at hix; cases hix; exact h
        obtain ⟨x, hX⟩ := hide c.l[k]
        rw [hX.out] at hck Hno Hyes
        have HA1 := Lib.hid (HS1.out x)
        have HA2 := Lib.hid (HS2.out x)
        obtain ⟨q1, hq1⟩ := hide (hasB c.v x)
        obtain ⟨q2, hq2⟩ := hide (hasB c.n x)
        rw [hq1.out] at HA1 Hyes Hno
        rw [hq2.out] at HA2 Hyes Hno
        clear hcell
        go_wp2_with fail
        refine HA1.out.mono ?_
        rintro e w' ⟨rfl, rfl⟩
        cases q1 with
        | true =>
          have Hq := Lib.hid (Hyes.out rfl)
          go_wp2_with fail
          exact Hq.out
        | false =>
          go_wp2_with fail
          refine HA2.out.mono ?_
          rintro e w' ⟨rfl, rfl⟩
          cases q2 with
          | true =>
            have Hq := Lib.hid (Hyes.out rfl)
            go_wp2_with fail
            exact Hq.out
          | false =>
            have Hq := Lib.hid (Hno.out rfl)
            go_wp2_with fail
            go_roundw
            case rel => exact ⟨k + 1, by go_num, hlt, (by first | rfl | trivial), Hq.out⟩
            case measure => simp [intOf]; omega
      · have hkn : k = c.l.length := by omega
        have Hq := Lib.hid (Hp.out true (by rw [E1.out, all_yes (fun i x hi hix => hx.out i x (by omega) hix)]; rfl))
        clear hkn
        go_wp2_with fail
        exact Hq.out

end Go.Proofs.Ytjlhlmnoomiblaa

namespace Go.Proofs.Ytjlhlmnoomiblaa
open Go.RowKit Wm Mm
set_option linter.unusedVariables false

/-- v is a slice of these integers, in a block from S on -/
def IntsF (S : Nat) (w : World) (v : Value) (l : List Int) : Prop :=
  ∃ ao cap, v = .slice ao l.length cap ∧ (l ≠ [] → ∃ b off, ao = some ⟨b, off, none⟩ ∧ S ≤ b ∧ ∀ j x, l[j]? = some x → w.cell? ⟨b, off + j, none⟩ = some (.int .i64 x)) ∧ l.length ≤ maxLen
theorem IntsF.ints {S : Nat} {w : World} {v : Value} {l : List Int} (h : IntsF S w v l) : Ints w v l := by
  obtain ⟨ao, cap, rfl, hc, hm⟩ := h
  exact ⟨ao, cap, rfl, fun hne => by obtain ⟨b, off, h1, _, h2⟩ := hc hne; exact ⟨b, off, h1, h2⟩, hm⟩
theorem IntsF.base {S S' : Nat} {w : World} {v : Value} {l : List Int} (h : IntsF S w v l) (hs : S' ≤ S) : IntsF S' w v l := by
  obtain ⟨ao, cap, rfl, hc, hm⟩ := h
  exact ⟨ao, cap, rfl, fun hne => by obtain ⟨b, off, h1, h2, h3⟩ := hc hne; exact ⟨b, off, h1, Nat.le_trans hs h2, h3⟩, hm⟩
theorem IntsF.up {S S' : Nat} {w w' : World} {v : Value} {l : List Int} (h : IntsF S w v l) (hu : Up S' w w') (hs : S' ≤ S) : IntsF S w' v l := by
  obtain ⟨ao, cap, rfl, hc, hm⟩ := h
  refine ⟨ao, cap, rfl, fun hne => ?_, hm⟩
  obtain ⟨b, off, rfl, h2, h3⟩ := hc hne
  refine ⟨b, off, rfl, h2, fun j x hx => ?_⟩
  have h4 := h3 j x hx
  have h5 := hu b (by omega) (World.block_lt_of_cell? _ _ h4)
  rw [← h4]
  simp only [World.cell?, h5]
theorem IntsF.of_own {w : World} {base : Nat} {e : TypeId} {v : Value} {n : Nat} {l : List Int} (h : w.ownsRow base e 1 v n (l.map (Value.int .i64))) : IntsF base w v l := by
  have hlen := h.1
  simp at hlen
  subst hlen
  rcases h.2 with ⟨rfl, h0⟩ | ⟨g, cap, cur, rfl, hb, hg, hn, hc, hs, ht⟩
  · refine ⟨none, 0, by rw [h0], fun hne => (hne (List.eq_nil_of_length_eq_zero h0)).elim, by rw [h0]; exact Nat.zero_le _⟩
  · refine ⟨_, _, rfl, fun _ => ⟨g, 0, rfl, hb, fun j x hj => ?_⟩, Nat.le_trans hn hc⟩
    have := h.cells (g := g) rfl j (.int .i64 x) (by simp [hj])
    have hadd : (⟨g, 0, none⟩ : Addr).add j = ⟨g, 0 + j, none⟩ := by unfold Addr.add; split <;> simp_all
    rwa [hadd] at this
theorem IntsF.cut {S : Nat} {w : World} {a : Option Addr} {n c : Nat} {l : List Int} {y : Int} (h : IntsF S w (.slice a n c) (l ++ [y])) : IntsF S w (.slice a l.length c) l := by
  obtain ⟨ao, cap, he, hc, hm⟩ := h
  injection he with e1 e2 e3
  subst e1; subst e3
  refine ⟨_, _, rfl, fun hne => ?_, by simp at hm; omega⟩
  obtain ⟨b, off, h1, h0, h2⟩ := hc (by simp)
  exact ⟨b, off, h1, h0, fun j x hj => h2 j x (by
    have hlt : j < l.length := by
      by_cases h : j < l.length
      · exact h
      · rw [List.getElem?_eq_none (by omega)] at hj; cases hj
    rw [List.getElem?_append_left hlt]; exact hj)⟩
theorem IntsF.len {S : Nat} {w : World} {v : Value} {l : List Int} (h : IntsF S w v l) : ∃ ao cap, v = .slice ao l.length cap := by
  obtain ⟨ao, cap, rfl, _, hm⟩ := h
  exact ⟨ao, cap, rfl⟩
theorem IntsF.nil (S : Nat) (w : World) : IntsF S w (.slice none 0 0) [] := ⟨none, 0, rfl, fun h => absurd rfl h, Nat.zero_le _⟩

/-- three such slices are this configuration -/
structure Config3F (S : Nat) (w : World) (a b d : Value) (c : Conf) : Prop where
  v : IntsF S w a c.v
  n : IntsF S w b c.n
  l : IntsF S w d c.l
theorem Config3F.conf {S : Nat} {w : World} {a b d : Value} {c : Conf} (h : Config3F S w a b d c) : Config3 w a b d c := ⟨h.v.ints, h.n.ints, h.l.ints⟩
theorem Config3F.base {S S' : Nat} {w : World} {a b d : Value} {c : Conf} (h : Config3F S w a b d c) (hs : S' ≤ S) : Config3F S' w a b d c := ⟨h.v.base hs, h.n.base hs, h.l.base hs⟩
theorem Config3F.up {S S' : Nat} {w w' : World} {a b d : Value} {c : Conf} (h : Config3F S w a b d c) (hu : Up S' w w') (hs : S' ≤ S) : Config3F S w' a b d c := ⟨h.v.up hu hs, h.n.up hu hs, h.l.up hu hs⟩
theorem Config3F.nil (S : Nat) (w : World) : Config3F S w (.slice none 0 0) (.slice none 0 0) (.slice none 0 0) ⟨[], [], []⟩ := ⟨.nil S w, .nil S w, .nil S w⟩
end Go.Proofs.Ytjlhlmnoomiblaa
