/-
  Pieces of a function's code, found by a test's slot or a region's number: so that each piece may be walked by itself. No program in sight. Two configurations compared by the program (package config).
-/
import Derived.Test.YtjlhlmnoomiblaaZ00
import Derived.Test.YtjlhlmnoomiblaaZ21
import Derived.Test.YtjlhlmnoomiblaaZ03
import Derived.Deep.QuietTactic
import Derived.Deep.Cut
import Derived.BigQuiet
namespace Go.Proofs.Ytjlhlmnoomiblaa.Mm
open Go.RowKit
set_option linter.unusedVariables false

def isTmp (n : Nat) : Operand → Bool
  | .tmp k => k == n
  | _ => false
/-- the 'if' on a slot -/
def condAt (n : Nat) : Code → Option Code
  | .cond c a b => if isTmp n c then some (.cond c a b) else match condAt n a with
    | some c => some c
    | none => condAt n b
  | .seq a b => match condAt n a with
    | some c => some c
    | none => condAt n b
  | .block _ c => condAt n c
  | .loop c => condAt n c
  | .scope c => condAt n c
  | _ => none
/-- the region of a number -/
def regionAt (n : Nat) : Code → Option Code
  | .region k o d => if k == n then some (.region k o d) else none
  | .cond c a b => match regionAt n a with
    | some c => some c
    | none => regionAt n b
  | .seq a b => match regionAt n a with
    | some c => some c
    | none => regionAt n b
  | .block _ c => regionAt n c
  | .loop c => regionAt n c
  | .scope c => regionAt n c
  | _ => none
/-- the block of a number -/
def blockAt (n : Nat) : Code → Option Code
  | .block k c => if k == n then some (.block k c) else blockAt n c
  | .cond c a b => match blockAt n a with
    | some c => some c
    | none => blockAt n b
  | .seq a b => match blockAt n a with
    | some c => some c
    | none => blockAt n b
  | .loop c => blockAt n c
  | .scope c => blockAt n c
  | _ => none
/-- does a code begin with the region of a number? -/
def isRegion (n : Nat) : Code → Bool
  | .region k _ _ => k == n
  | .seq a _ => isRegion n a
  | .block _ c => isRegion n c
  | .scope c => isRegion n c
  | .loop c => isRegion n c
  | _ => false
/-- what stands from the region of a number on, to the end of its sequence -/
def seqAt (n : Nat) : Code → Option Code
  | .seq a b => if isRegion n a then some (.seq a b) else match seqAt n a with
    | some c => some c
    | none => seqAt n b
  | .cond c a b => match seqAt n a with
    | some c => some c
    | none => seqAt n b
  | .block _ c => seqAt n c
  | .loop c => seqAt n c
  | .scope c => seqAt n c
  | _ => none
/-- the loops of a code, in order -/
def loopsOf : Code → List Code
  | .loop c => .loop c :: loopsOf c
  | .cond _ a b => loopsOf a ++ loopsOf b
  | .seq a b => loopsOf a ++ loopsOf b
  | .block _ c => loopsOf c
  | .scope c => loopsOf c
  | _ => []
theorem piece_seq {P : Program} {c : Code} {K : Act → World → Prop} {Q : Exit → Act → World → Prop} {a : Act} {w : World} (h : c.wp P (Exit.then K fun _ _ _ => False) a w) (hK : ∀ a w, K a w → Q .normal a w) : c.wp P Q a w := by
  refine wp_mono h ?_
  intro e a' w' hq
  cases e with
  | normal => exact hK _ _ hq
  | exit id => exact hq.elim
  | goto l => exact hq.elim
  | ret => exact hq.elim
  | panic ch => exact hq.elim
  | outgrown => exact hq.elim
/-- a piece that only ends by going on -/
theorem piece_any {P : Program} {c : Code} {K : Act → World → Prop} {Q' : Exit → Act → World → Prop} {a : Act} {w : World} (h : c.wp P (Exit.then K fun _ _ _ => False) a w) : c.wp P (Exit.then K Q') a w := by
  refine wp_mono h ?_
  intro e a' w' hq
  cases e with
  | normal => exact hq
  | exit id => exact hq.elim
  | goto l => exact hq.elim
  | ret => exact hq.elim
  | panic ch => exact hq.elim
  | outgrown => exact hq.elim
end Go.Proofs.Ytjlhlmnoomiblaa.Mm

namespace Go.Proofs.Ytjlhlmnoomiblaa
open Go.RowKit Wm Mm
set_option linter.unusedVariables false
set_option linter.unusedSimpArgs false

set_option maxHeartbeats 1000000 in
theorem slices_equal (u v : Value) (a b : List Int) (w : World) (hu : Ints w u a) (hv : Ints w v b) :
    Calls Try.prog 37 #[u, v] w fun e w' => e = .returned (.bool (decide (a = b))) ∧ Below w.heap.size w w' := by
  obtain ⟨ao, ca, rfl, hca, hma⟩ := hu
  obtain ⟨bo, cb, rfl, hcb, hmb⟩ := hv
  obtain ⟨res, HR⟩ := hide (decide (a = b))
  rw [HR.out]
  have HA := Lib.hid hca
  have HB := Lib.hid hcb
  unfold maxLen at hma hmb
  clear hca hcb
  by_cases hlen : a.length = b.length
  · have hd : ((a.length : Int) != (b.length : Int)) = false := by rw [bne_eq_false_iff_eq]; omega
    have Hlen := Lib.hid hlen
    clear hlen
    go_enter Try.func37, Try.ntmps37
    go_wp2
    go_loopw [13] (fun i wr => ∃ k : Nat, i = .int .i64 k ∧ k ≤ a.length ∧ Hid (a.take k = b.take k) ∧ Hid (Below w.heap.size w wr)) (fun i _ => a.length - (intOf i).toNat)
    case atStart => exact ⟨0, rfl, Nat.zero_le _, rfl, Below.refl _ _⟩
    case round =>
      obtain ⟨k, rfl, hk, he, hb⟩ := hrel
      by_cases hlt : k < a.length
      · have hltb : k < b.length := by rw [← Hlen.out]; exact hlt
        obtain ⟨ba, oa, rfl, hcella⟩ := HA.out (by intro h; rw [h] at hlt; simp at hlt)
        obtain ⟨bb, ob, rfl, hcellb⟩ := HB.out (by intro h; rw [h] at hltb; simp at hltb)
        have ha := hcella k a[k] (by simp [hlt])
        have hb2 := hcellb k b[k] (by simp [hltb])
        have hcwa : wr.cell? ⟨ba, oa + k, none⟩ = some (.int .i64 a[k]) := by
          rw [hb.out.cell (p := ⟨ba, oa + k, none⟩) (World.block_lt_of_cell? _ _ ha)]; exact ha
        have hcwb : wr.cell? ⟨bb, ob + k, none⟩ = some (.int .i64 b[k]) := by
          rw [hb.out.cell (p := ⟨bb, ob + k, none⟩) (World.block_lt_of_cell? _ _ hb2)]; exact hb2
        obtain ⟨x, hX⟩ := hide a[k]
        obtain ⟨y, hY⟩ := hide b[k]
        rw [hX.out] at hcwa
        rw [hY.out] at hcwb
        clear hcella hcellb ha hb2
        have hka : decide (k < a.length) = true := decide_eq_true hlt
        by_cases hxy : x = y
        · have hne : (x != y) = false := by rw [bne_eq_false_iff_eq]; exact hxy
          have Hxy := Lib.hid hxy
          clear hxy
          go_wp2_with (go_quiet (fail))
          go_roundw
          case rel =>
            refine ⟨k + 1, by go_num, by omega, ?_, below_drewN hb.out _⟩
            show _ = _
            rw [take_snoc a k hlt, take_snoc b k hltb, he.out, hX.out, hY.out, Hxy.out]
          case measure => simp [intOf]; omega
        · have hne : (x != y) = true := by rw [bne_iff_ne]; exact hxy
          have e1 : false = res := by
            rw [← HR.out]; symm; apply decide_eq_false
            intro h; subst h; exact hxy (hX.out.symm.trans hY.out)
          subst e1
          clear hxy
          go_wp2_with (go_quiet (fail))
          go_ret
          exact ⟨rfl, below_drewN hb.out _⟩
      · have hka : decide (k < a.length) = false := decide_eq_false hlt
        have e1 : true = res := by
          rw [← HR.out]; symm; apply decide_eq_true
          have h := he.out
          rwa [List.take_of_length_le (by omega), List.take_of_length_le (by have := Hlen.out; omega)] at h
        subst e1
        clear hlt
        go_wp2
        go_ret
        exact ⟨rfl, hb.out⟩
  · have hd : ((a.length : Int) != (b.length : Int)) = true := by rw [bne_iff_ne]; omega
    have e1 : false = res := by
      rw [← HR.out]; symm; apply decide_eq_false
      intro h; exact hlen (by rw [h])
    subst e1
    clear hlen
    go_enter Try.func37, Try.ntmps37
    go_wp2
    go_ret
    exact ⟨rfl, Below.refl _ _⟩

set_option maxHeartbeats 2000000 in
theorem config_same (a b d a' b' d' : Value) (c c' : Conf) (w : World) (hc : Config3 w a b d c) (hc' : Config3 w a' b' d' c') :
    Calls Try.prog 20 #[.agg #[a, b, d], .agg #[a', b', d']] w fun e w' => e = .returned (.bool (sameConf c c')) ∧ Below w.heap.size w w' := by
  obtain ⟨post, HP⟩ := hide (fun (e : Ending) (w' : World) => e = .returned (.bool (sameConf c c')) ∧ Below w.heap.size w w')
  rw [HP.out]
  have hb1 : Below w.heap.size w ((w.alloc (.cells #[a, b, d] 24)).alloc (.cells #[a', b', d'] 24)) := ((Below.refl _ _).alloc (Nat.le_refl _) _).alloc (by simp) _
  obtain ⟨W, hW⟩ := hide ((w.alloc (.cells #[a, b, d] 24)).alloc (.cells #[a', b', d'] 24))
  have hx : W.heap[w.heap.size]? = some (.cells #[a, b, d] 24 (0, 0)) := by rw [← hW.out]; exact (hp_past _ _ (by simp)).trans (hp_at _ _ rfl)
  have hy : W.heap[w.heap.size + 1]? = some (.cells #[a', b', d'] 24 (0, 0)) := by rw [← hW.out]; exact hp_at _ _ (by simp)
  rw [hW.out] at hb1
  have Hx : Hid (∀ w', Below W.heap.size W w' → w'.heap[w.heap.size]? = some (.cells #[a, b, d] 24 (0, 0)) ∧ w'.heap[w.heap.size + 1]? = some (.cells #[a', b', d'] 24 (0, 0)) ∧ Below w.heap.size w w') := fun w' h => ⟨(h.block _ (lt_of_block hx)).trans hx, (h.block _ (lt_of_block hy)).trans hy, hb1.trans (h.mono hb1.size)⟩
  have HI : Hid (∀ w', Below w.heap.size w w' → (Calls Try.prog 37 #[a, a'] w' fun e w'' => e = .returned (.bool (decide (c.v = c'.v))) ∧ Below w'.heap.size w' w'') ∧ (Calls Try.prog 37 #[b, b'] w' fun e w'' => e = .returned (.bool (decide (c.n = c'.n))) ∧ Below w'.heap.size w' w'') ∧ (Calls Try.prog 37 #[d, d'] w' fun e w'' => e = .returned (.bool (decide (c.l = c'.l))) ∧ Below w'.heap.size w' w'')) := by
    show ∀ w', _ → _
    intro w' hw
    have h := hc.mono hw
    have h' := hc'.mono hw
    exact ⟨slices_equal _ _ _ _ _ h.v h'.v, slices_equal _ _ _ _ _ h.n h'.n, slices_equal _ _ _ _ _ h.l h'.l⟩
  obtain ⟨r1, hr1⟩ := hide (decide (c.v = c'.v))
  obtain ⟨r2, hr2⟩ := hide (decide (c.n = c'.n))
  obtain ⟨r3, hr3⟩ := hide (decide (c.l = c'.l))
  rw [hr1.out, hr2.out, hr3.out] at HI
  have HS : Hid (sameConf c c' = (r1 && (r2 && r3))) := by show _ = _; rw [← hr1.out, ← hr2.out, ← hr3.out]; rfl
  have Hp : Hid (∀ z w', Below W.heap.size W w' → (r1 && (r2 && r3)) = z → post (.returned (.bool z)) w') := by
    show ∀ z w', _ → _ → _
    intro z w' hw hz; rw [← HP.out, ← hz, HS.out]; exact ⟨rfl, hb1.trans (hw.mono hb1.size)⟩
  clear hb1 hx hy hc hc'
  obtain ⟨B, hB⟩ := hide w.heap.size
  rw [hB.out] at Hx HI
  have H0 := Lib.hid (Below.refl W.heap.size W)
  obtain ⟨x0, y0, z0⟩ := Hx.out _ H0.out
  have c0 : W.cell? ⟨B, 0, none⟩ = some a := cell_n x0 0 rfl
  have d0 : W.cell? ⟨B + 1, 0, none⟩ = some a' := cell_n y0 0 rfl
  clear x0 y0 z0
  go_enter Try.func20, Try.ntmps20
  go_upto_region 1 with fail
  rw [hW.out, hB.out]
  go_wp2_with fail
  refine (HI.out _ (Hx.out _ H0.out).2.2).1.mono ?_
  rintro e w1 ⟨rfl, hb1⟩
  have H1 := Lib.hid (H0.out.trans (hb1.mono H0.out.size))
  obtain ⟨x0, y0, z0⟩ := Hx.out _ H1.out
  clear c0 d0
  cases r1 with
  | false =>
    have Hq := Lib.hid (Hp.out _ w1 H1.out rfl)
    clear x0 y0 z0 hb1
    go_wp2_with fail
    exact Hq.out
  | true =>
  have c0 : w1.cell? ⟨B, 1, none⟩ = some b := cell_n x0 1 rfl
  have d0 : w1.cell? ⟨B + 1, 1, none⟩ = some b' := cell_n y0 1 rfl
  clear x0 y0 z0 hb1
  go_wp2_with fail
  refine (HI.out _ (Hx.out _ H1.out).2.2).2.1.mono ?_
  rintro e w2 ⟨rfl, hb1⟩
  have H2 := Lib.hid (H1.out.trans (hb1.mono H1.out.size))
  obtain ⟨x0, y0, z0⟩ := Hx.out _ H2.out
  clear c0 d0
  cases r2 with
  | false =>
    have Hq := Lib.hid (Hp.out _ w2 H2.out rfl)
    clear x0 y0 z0 hb1
    go_wp2_with fail
    exact Hq.out
  | true =>
  have c0 : w2.cell? ⟨B, 2, none⟩ = some d := cell_n x0 2 rfl
  have d0 : w2.cell? ⟨B + 1, 2, none⟩ = some d' := cell_n y0 2 rfl
  clear x0 y0 z0 hb1
  go_wp2_with fail
  refine (HI.out _ (Hx.out _ H2.out).2.2).2.2.mono ?_
  rintro e w3 ⟨rfl, hb1⟩
  have H3 := Lib.hid (H2.out.trans (hb1.mono H2.out.size))
  clear c0 d0 hb1
  have Hq := Lib.hid (Hp.out _ w3 H3.out rfl)
  go_wp2_with fail
  exact Hq.out
end Go.Proofs.Ytjlhlmnoomiblaa
