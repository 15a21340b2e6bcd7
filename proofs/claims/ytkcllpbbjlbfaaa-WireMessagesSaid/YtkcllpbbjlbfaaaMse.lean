/-
  Messages: are two snapshots the same; do entries follow (package wire). Messages: do entries stand behind an index (package wire).
-/
import Derived.Test.YtkcllpbbjlbfaaaMsc
namespace Go.Proofs.Ytkcllpbbjlbfaaa
open Go.RowKit Wm Mm Lg
set_option linter.unusedVariables false
set_option linter.unusedSimpArgs false

set_option maxHeartbeats 1000000 in
theorem slices_equal (u v : Value) (a b : List Int) (w : World) (hu : Ints w u a) (hv : Ints w v b) :
    Calls Try.prog 67 #[u, v] w fun e w' => e = .returned (.bool (decide (a = b))) ∧ Below w.heap.size w w' := by
  obtain ⟨ao, ca, rfl, hca, hma⟩ := hu
  obtain ⟨bo, cb, rfl, hcb, hmb⟩ := hv
  obtain ⟨res, HR⟩ := hide (decide (a = b))
  rw [HR.out]
  have HA := Lib.hid hca
  have HB := Lib.hid hcb
  unfold maxLen at hma hmb
  clear hca hcb
  by_cases hlen : a.length = b.length
  · have hd : ((a.length : Int) != (b.length : Int)) = false := by rw [bne_eq_false_iff_eq]; omega
    have Hlen := Lib.hid hlen
    clear hlen
    go_enter Try.func67, Try.ntmps67
    go_wp2
    go_loopw [13] (fun i wr => ∃ k : Nat, i = .int .i64 k ∧ k ≤ a.length ∧ Hid (a.take k = b.take k) ∧ Hid (Below w.heap.size w wr)) (fun i _ => a.length - (intOf i).toNat)
    case atStart => exact ⟨0, rfl, Nat.zero_le _, rfl, Below.refl _ _⟩
    case round =>
      obtain ⟨k, rfl, hk, he, hb⟩ := hrel
      by_cases hlt : k < a.length
      · have hltb : k < b.length := by rw [← Hlen.out]; exact hlt
        obtain ⟨ba, oa, rfl, hcella⟩ := HA.out (by intro h; rw [h] at hlt; simp at hlt)
        obtain ⟨bb, ob, rfl, hcellb⟩ := HB.out (by intro h; rw [h] at hltb; simp at hltb)
        have ha := hcella k a[k] (by simp [hlt])
        have hb2 := hcellb k b[k] (by simp [hltb])
        have hcwa : wr.cell? ⟨ba, oa + k, none⟩ = some (.int .i64 a[k]) := by
          rw [hb.out.cell (p := ⟨ba, oa + k, none⟩) (World.block_lt_of_cell? _ _ ha)]; exact ha
        have hcwb : wr.cell? ⟨bb, ob + k, none⟩ = some (.int .i64 b[k]) := by
          rw [hb.out.cell (p := ⟨bb, ob + k, none⟩) (World.block_lt_of_cell? _ _ hb2)]; exact hb2
        obtain ⟨x, hX⟩ := hide a[k]
        obtain ⟨y, hY⟩ := hide b[k]
        rw [hX.out] at hcwa
        rw [hY.out] at hcwb
        clear hcella hcellb ha hb2
        have hka : decide (k < a.length) = true := decide_eq_true hlt
        by_cases hxy : x = y
        · have hne : (x != y) = false := by rw [bne_eq_false_iff_eq]; exact hxy
          have Hxy := Lib.hid hxy
          clear hxy
          go_wp2_with (go_quiet (fail))
          go_roundw
          case rel =>
            refine ⟨k + 1, by go_num, by omega, ?_, below_drewN hb.out _⟩
            show _ = _
            rw [take_snoc a k hlt, take_snoc b k hltb, he.out, hX.out, hY.out, Hxy.out]
          case measure => simp [intOf]; omega
        · have hne : (x != y) = true := by rw [bne_iff_ne]; exact hxy
          have e1 : false = res := by
            rw [← HR.out]; symm; apply decide_eq_false
            intro h; subst h; exact hxy (hX.out.symm.trans hY.out)
          subst e1
          clear hxy
          go_wp2_with (go_quiet (fail))
          go_ret
          exact ⟨rfl, below_drewN hb.out _⟩
      · have hka : decide (k < a.length) = false := decide_eq_false hlt
        have e1 : true = res := by
          rw [← HR.out]; symm; apply decide_eq_true
          have h := he.out
          rwa [List.take_of_length_le (by omega), List.take_of_length_le (by have := Hlen.out; omega)] at h
        subst e1
        clear hlt
        go_wp2
        go_ret
        exact ⟨rfl, hb.out⟩
  · have hd : ((a.length : Int) != (b.length : Int)) = true := by rw [bne_iff_ne]; omega
    have e1 : false = res := by
      rw [← HR.out]; symm; apply decide_eq_false
      intro h; exact hlen (by rw [h])
    subst e1
    clear hlen
    go_enter Try.func67, Try.ntmps67
    go_wp2
    go_ret
    exact ⟨rfl, Below.refl _ _⟩

set_option maxHeartbeats 2000000 in
theorem config_same (a b d a' b' d' : Value) (c c' : Conf) (w : World) (hc : Config3 w a b d c) (hc' : Config3 w a' b' d' c') :
    Calls Try.prog 58 #[.agg #[a, b, d], .agg #[a', b', d']] w fun e w' => e = .returned (.bool (sameConf c c')) ∧ Below w.heap.size w w' := by
  obtain ⟨post, HP⟩ := hide (fun (e : Ending) (w' : World) => e = .returned (.bool (sameConf c c')) ∧ Below w.heap.size w w')
  rw [HP.out]
  have hb1 : Below w.heap.size w ((w.alloc (.cells #[a, b, d] 25)).alloc (.cells #[a', b', d'] 25)) := ((Below.refl _ _).alloc (Nat.le_refl _) _).alloc (by simp) _
  obtain ⟨W, hW⟩ := hide ((w.alloc (.cells #[a, b, d] 25)).alloc (.cells #[a', b', d'] 25))
  have hx : W.heap[w.heap.size]? = some (.cells #[a, b, d] 25 (0, 0)) := by rw [← hW.out]; exact (hp_past _ _ (by simp)).trans (hp_at _ _ rfl)
  have hy : W.heap[w.heap.size + 1]? = some (.cells #[a', b', d'] 25 (0, 0)) := by rw [← hW.out]; exact hp_at _ _ (by simp)
  rw [hW.out] at hb1
  have Hx : Hid (∀ w', Below W.heap.size W w' → w'.heap[w.heap.size]? = some (.cells #[a, b, d] 25 (0, 0)) ∧ w'.heap[w.heap.size + 1]? = some (.cells #[a', b', d'] 25 (0, 0)) ∧ Below w.heap.size w w') := fun w' h => ⟨(h.block _ (lt_of_block hx)).trans hx, (h.block _ (lt_of_block hy)).trans hy, hb1.trans (h.mono hb1.size)⟩
  have HI : Hid (∀ w', Below w.heap.size w w' → (Calls Try.prog 67 #[a, a'] w' fun e w'' => e = .returned (.bool (decide (c.v = c'.v))) ∧ Below w'.heap.size w' w'') ∧ (Calls Try.prog 67 #[b, b'] w' fun e w'' => e = .returned (.bool (decide (c.n = c'.n))) ∧ Below w'.heap.size w' w'') ∧ (Calls Try.prog 67 #[d, d'] w' fun e w'' => e = .returned (.bool (decide (c.l = c'.l))) ∧ Below w'.heap.size w' w'')) := by
    show ∀ w', _ → _
    intro w' hw
    have h := hc.mono hw
    have h' := hc'.mono hw
    exact ⟨slices_equal _ _ _ _ _ h.v h'.v, slices_equal _ _ _ _ _ h.n h'.n, slices_equal _ _ _ _ _ h.l h'.l⟩
  obtain ⟨r1, hr1⟩ := hide (decide (c.v = c'.v))
  obtain ⟨r2, hr2⟩ := hide (decide (c.n = c'.n))
  obtain ⟨r3, hr3⟩ := hide (decide (c.l = c'.l))
  rw [hr1.out, hr2.out, hr3.out] at HI
  have HS : Hid (sameConf c c' = (r1 && (r2 && r3))) := by show _ = _; rw [← hr1.out, ← hr2.out, ← hr3.out]; rfl
  have Hp : Hid (∀ z w', Below W.heap.size W w' → (r1 && (r2 && r3)) = z → post (.returned (.bool z)) w') := by
    show ∀ z w', _ → _ → _
    intro z w' hw hz; rw [← HP.out, ← hz, HS.out]; exact ⟨rfl, hb1.trans (hw.mono hb1.size)⟩
  clear hb1 hx hy hc hc'
  obtain ⟨B, hB⟩ := hide w.heap.size
  rw [hB.out] at Hx HI
  have H0 := Lib.hid (Below.refl W.heap.size W)
  obtain ⟨x0, y0, z0⟩ := Hx.out _ H0.out
  have c0 : W.cell? ⟨B, 0, none⟩ = some a := cell_n x0 0 rfl
  have d0 : W.cell? ⟨B + 1, 0, none⟩ = some a' := cell_n y0 0 rfl
  clear x0 y0 z0
  go_enter Try.func58, Try.ntmps58
  go_upto_region 1 with fail
  rw [hW.out, hB.out]
  go_wp2_with fail
  refine (HI.out _ (Hx.out _ H0.out).2.2).1.mono ?_
  rintro e w1 ⟨rfl, hb1⟩
  have H1 := Lib.hid (H0.out.trans (hb1.mono H0.out.size))
  obtain ⟨x0, y0, z0⟩ := Hx.out _ H1.out
  clear c0 d0
  cases r1 with
  | false =>
    have Hq := Lib.hid (Hp.out _ w1 H1.out rfl)
    clear x0 y0 z0 hb1
    go_wp2_with fail
    exact Hq.out
  | true =>
  have c0 : w1.cell? ⟨B, 1, none⟩ = some b := cell_n x0 1 rfl
  have d0 : w1.cell? ⟨B + 1, 1, none⟩ = some b' := cell_n y0 1 rfl
  clear x0 y0 z0 hb1
  go_wp2_with fail
  refine (HI.out _ (Hx.out _ H1.out).2.2).2.1.mono ?_
  rintro e w2 ⟨rfl, hb1⟩
  have H2 := Lib.hid (H1.out.trans (hb1.mono H1.out.size))
  obtain ⟨x0, y0, z0⟩ := Hx.out _ H2.out
  clear c0 d0
  cases r2 with
  | false =>
    have Hq := Lib.hid (Hp.out _ w2 H2.out rfl)
    clear x0 y0 z0 hb1
    go_wp2_with fail
    exact Hq.out
  | true =>
  have c0 : w2.cell? ⟨B, 2, none⟩ = some d := cell_n x0 2 rfl
  have d0 : w2.cell? ⟨B + 1, 2, none⟩ = some d' := cell_n y0 2 rfl
  clear x0 y0 z0 hb1
  go_wp2_with fail
  refine (HI.out _ (Hx.out _ H2.out).2.2).2.2.mono ?_
  rintro e w3 ⟨rfl, hb1⟩
  have H3 := Lib.hid (H2.out.trans (hb1.mono H2.out.size))
  clear c0 d0 hb1
  have Hq := Lib.hid (Hp.out _ w3 H3.out rfl)
  go_wp2_with fail
  exact Hq.out

def sameSnapB (i t : Int) (c : Conf) (d : List UInt8) (i' t' : Int) (c' : Conf) (d' : List UInt8) : Bool := (i == i') && ((t == t') && ((d == d') && sameConf c c'))
set_option maxHeartbeats 2000000 in
theorem wire_sameSnapshot (i t : Int) (x y z : Value) (c : Conf) (d : List UInt8) (i' t' : Int) (x' y' z' : Value) (c' : Conf) (d' : List UInt8) (w : World) (hc : Config3 w x y z c) (hc' : Config3 w x' y' z' c') :
    Calls Try.prog 39 #[vSnap i t x y z d, vSnap i' t' x' y' z' d'] w fun e w' => e = .returned (.bool (sameSnapB i t c d i' t' c' d')) ∧ Below w.heap.size w w' := by
  obtain ⟨post, HP⟩ := hide (fun (e : Ending) (w' : World) => e = .returned (.bool (sameSnapB i t c d i' t' c' d')) ∧ Below w.heap.size w w')
  rw [HP.out]
  obtain ⟨ax, cx, rfl, _⟩ := len_of_Ints hc.v
  obtain ⟨ay, cy, rfl, _⟩ := len_of_Ints hc.n
  obtain ⟨az, cz, rfl, _⟩ := len_of_Ints hc.l
  obtain ⟨ax', cx', rfl, _⟩ := len_of_Ints hc'.v
  obtain ⟨ay', cy', rfl, _⟩ := len_of_Ints hc'.n
  obtain ⟨az', cz', rfl, _⟩ := len_of_Ints hc'.l
  obtain ⟨W, hW⟩ := hide ((w.alloc (.cells #[.int .i64 i, .int .i64 t, .slice ax c.v.length cx, .slice ay c.n.length cy, .slice az c.l.length cz, str d] 27)).alloc (.cells #[.int .i64 i', .int .i64 t', .slice ax' c'.v.length cx', .slice ay' c'.n.length cy', .slice az' c'.l.length cz', str d'] 27))
  have hb1 : Below w.heap.size w W := by rw [← hW.out]; exact ((Below.refl _ _).alloc (Nat.le_refl _) _).alloc (by simp) _
  have hx : W.heap[w.heap.size]? = some (.cells #[.int .i64 i, .int .i64 t, .slice ax c.v.length cx, .slice ay c.n.length cy, .slice az c.l.length cz, str d] 27 (0, 0)) := by rw [← hW.out]; exact (hp_past _ _ (by simp)).trans (hp_at _ _ rfl)
  have hy : W.heap[w.heap.size + 1]? = some (.cells #[.int .i64 i', .int .i64 t', .slice ax' c'.v.length cx', .slice ay' c'.n.length cy', .slice az' c'.l.length cz', str d'] 27 (0, 0)) := by rw [← hW.out]; exact hp_at _ _ (by simp)
  have HI := Lib.hid (config_same _ _ _ _ _ _ c c' W (hc.mono hb1) (hc'.mono hb1))
  obtain ⟨r1, hr1⟩ := hide (i == i')
  obtain ⟨r2, hr2⟩ := hide (t == t')
  obtain ⟨r3, hr3⟩ := hide (d == d')
  obtain ⟨r4, hr4⟩ := hide (sameConf c c')
  rw [hr4.out] at HI
  have Hp : Hid (∀ q w', Below W.heap.size W w' → (r1 && (r2 && (r3 && r4))) = q → post (.returned (.bool q)) w') := by
    show ∀ q w', _ → _ → _
    intro q w' hw hq
    rw [← HP.out, ← hq, ← hr1.out, ← hr2.out, ← hr3.out, ← hr4.out]
    exact ⟨rfl, hb1.trans (hw.mono hb1.size)⟩
  obtain ⟨B, hB⟩ := hide w.heap.size
  rw [hB.out] at hx hy
  have a0 := cell_n hx 0 (v := .int .i64 i) rfl
  have a1 := cell_n hx 1 (v := .int .i64 t) rfl
  have a2 := cell_n hx 2 (v := .slice ax c.v.length cx) rfl
  have a3 := cell_n hx 3 (v := .slice ay c.n.length cy) rfl
  have a4 := cell_n hx 4 (v := .slice az c.l.length cz) rfl
  have a5 := cell_n hx 5 (v := str d) rfl
  have b0 := cell_n hy 0 (v := .int .i64 i') rfl
  have b1 := cell_n hy 1 (v := .int .i64 t') rfl
  have b2 := cell_n hy 2 (v := .slice ax' c'.v.length cx') rfl
  have b3 := cell_n hy 3 (v := .slice ay' c'.n.length cy') rfl
  have b4 := cell_n hy 4 (v := .slice az' c'.l.length cz') rfl
  have b5 := cell_n hy 5 (v := str d') rfl
  have q1 : (i == i') = r1 := hr1.out
  have q2 : (t == t') = r2 := hr2.out
  have q3 : (d == d') = r3 := hr3.out
  have H0 := Lib.hid (Below.refl W.heap.size W)
  clear hb1 hx hy hc hc'
  cases r1 with
  | false =>
    have Hq := Lib.hid (Hp.out _ W H0.out rfl)
    go_enter Try.func39, Try.ntmps39
    go_upto_region 1 with fail
    rw [hW.out, hB.out]
    go_wp2_with fail
    exact Hq.out
  | true =>
  cases r2 with
  | false =>
    have Hq := Lib.hid (Hp.out _ W H0.out rfl)
    go_enter Try.func39, Try.ntmps39
    go_upto_region 1 with fail
    rw [hW.out, hB.out]
    go_wp2_with fail
    exact Hq.out
  | true =>
  cases r3 with
  | false =>
    have Hq := Lib.hid (Hp.out _ W H0.out rfl)
    go_enter Try.func39, Try.ntmps39
    go_upto_region 1 with fail
    rw [hW.out, hB.out]
    go_wp2_with fail
    exact Hq.out
  | true =>
    go_enter Try.func39, Try.ntmps39
    go_upto_region 1 with fail
    rw [hW.out, hB.out]
    go_wp2_with fail
    refine HI.out.mono ?_
    rintro e w1 ⟨rfl, hb⟩
    have Hq := Lib.hid (Hp.out _ w1 hb rfl)
    clear hb
    go_wp2_with fail
    exact Hq.out
end Go.Proofs.Ytkcllpbbjlbfaaa

namespace Go.Proofs.Ytkcllpbbjlbfaaa
open Go.RowKit Wm Mm Lg
set_option linter.unusedVariables false
set_option linter.unusedSimpArgs false

set_option maxHeartbeats 2000000 in
theorem wire_follow (ev : Value) (es : List EntP) (index low high : Int) (F : Nat → Prop) (w : World) (hE : Ents F w ev es) (h1 : 0 ≤ index) (h2 : index ≤ 1099511627775) (h8 : es.length ≤ 8) :
    Calls Try.prog 41 #[ev, .int .i64 index, .int .i64 low, .int .i64 high] w fun e w' => e = .returned (.bool (followB es index low high)) ∧ Below w.heap.size w w' := by
  obtain ⟨post, HP⟩ := hide (fun (e : Ending) (w' : World) => e = .returned (.bool (followB es index low high)) ∧ Below w.heap.size w w')
  rw [HP.out]
  obtain ⟨ao, cap, rfl, hcap, hmax⟩ := hE.slice
  have HF : Hid (∀ w', Below w.heap.size w w' → Ents F w' (.slice ao es.length cap) es) := fun w' hb => hE.frame (Plain.good _) (Agree.below hb)
  have Hp : Hid (∀ b w', Below w.heap.size w w' → followB es index low high = b → post (.returned (.bool b)) w') := by
    show ∀ b w', _ → _ → _
    intro b w' hw hb
    rw [← HP.out, ← hb]
    exact ⟨rfl, hw⟩
  obtain ⟨B, hB⟩ := hide w.heap.size
  rw [hB.out] at HF Hp
  clear hE
  go_enter Try.func41, Try.ntmps41
  go_wp2_with fail
  go_loopw [2, 13] (fun lo i wr => ∃ (k : Nat) (lw : Int), lo = .int .i64 lw ∧ i = .int .i64 k ∧ k ≤ es.length ∧ Hid (followB es index low high = followB (es.drop k) (index + k) lw high) ∧ Hid (Below B w wr)) (fun _ i _ => es.length - (intOf i).toNat)
  case atStart => exact ⟨0, low, rfl, rfl, Nat.zero_le _, by show _ = _; simp, by rw [← hB.out]; exact Below.refl _ _⟩
  case round =>
    obtain ⟨k, lw, rfl, rfl, hk, hf, hb⟩ := hrel
    by_cases hlt : k < es.length
    · obtain ⟨b, off, us, rfl, _, _, hus, hcs⟩ := (HF.out _ hb.out).at hlt
      have hfd := hf.out
      rw [follow_drop hlt] at hfd
      obtain ⟨x, hx⟩ := hide es[k]
      rw [hx.out] at hus hfd
      have e1 : us = rowE x := hus
      subst e1
      have c0 := hcs 0 _ rfl
      have c1 := hcs 1 _ rfl
      have c2 := hcs 2 _ rfl
      have c3 := hcs 3 _ rfl
      rw [Nat.add_zero] at c0
      clear hcs hus
      have Hfd := Lib.hid hfd
      clear hfd
      obtain ⟨W1, hW1⟩ := hide (wr.alloc (.cells (rowE x).toArray 40))
      obtain ⟨C, hC⟩ := hide wr.heap.size
      have HB1 : Hid (Below B w W1) := by show Below _ _ _; rw [← hW1.out]; exact hb.out.alloc (by rw [← hB.out]; exact hb.out.size) _
      have HC : Hid (W1.heap[C]? = some (.cells (rowE x).toArray 40 (0, 0))) := by show _ = _; rw [← hW1.out, ← hC.out]; exact hp_at _ _ rfl
      obtain ⟨W2, hW2⟩ := hide (W1.alloc (.cells (rowE x).toArray 40))
      have HB2 : Hid (Below B w W2) := by show Below _ _ _; rw [← hW2.out]; exact HB1.out.alloc (by rw [← hB.out]; exact HB1.out.size) _
      have HC2 : Hid (W2.heap[C]? = some (.cells (rowE x).toArray 40 (0, 0))) := by show _ = _; rw [← hW2.out, hp_past _ _ (by have := lt_of_block HC.out; omega)]; exact HC.out
      have K := Lib.hid (wire_isEntry x.idx x.trm x.knd x.dat W1)
      have K2 : Hid (Calls Try.prog 52 #[vEnt x.idx x.trm x.knd x.dat] W1 fun e w' => e = .returned (.bool (isEntry x.idx x.trm x.knd x.dat)) ∧ W2 = w') := by
        refine K.out.mono ?_
        rintro e w' ⟨rfl, rfl⟩
        exact ⟨rfl, hW2.out.symm⟩
      clear K hW2
      have q0 := cell_n HC.out 0 (v := .int .i64 x.idx) rfl
      have q1 := cell_n HC.out 1 (v := .int .i64 x.trm) rfl
      have q2 := cell_n HC.out 2 (v := .int .i64 x.knd) rfl
      have q3 := cell_n HC.out 3 (v := str x.dat) rfl
      have hidx : ((k : Int) < (es.length : Int)) := by omega
      go_upto_region 4 with fail
      rw [hW1.out]
      try rw [hC.out]
      go_wp2_with fail
      refine K2.out.mono ?_
      rintro e w' ⟨rfl, rfl⟩
      clear q0 q1 q2 q3 c0 c1 c2 c3
      have q0 := cell_n HC2.out 0 (v := .int .i64 x.idx) rfl
      have q1 := cell_n HC2.out 1 (v := .int .i64 x.trm) rfl
      obtain ⟨r0, hr0⟩ := hide (isEntry x.idx x.trm x.knd x.dat)
      rw [hr0.out] at Hfd ⊢
      cases r0 with
      | false =>
        have Hq := Lib.hid (Hp.out false _ HB2.out (by rw [Hfd.out]; rfl))
        clear Hfd
        go_wp2_with fail
        exact Hq.out
      | true =>
      obtain ⟨xi, xt, xk, xd⟩ := x
      by_cases h3 : xi = index + 1 + (k : Int)
      · have t3 : (xi != index + 1 + (k : Int)) = false := by rw [bne_eq_false_iff_eq]; exact h3
        have d3 : decide (xi = index + (k : Int) + 1) = true := decide_eq_true (by omega)
        have H3 := Lib.hid h3
        clear h3
        by_cases h4 : xt < lw
        · have t4 : decide (xt < lw) = true := decide_eq_true h4
          have Hq := Lib.hid (Hp.out false _ HB2.out (by
            rw [Hfd.out]
            show (_ && (_ && (decide (lw ≤ xt) && _))) = _
            rw [decide_eq_false (by omega : ¬ lw ≤ xt)]
            simp))
          clear Hfd h4 d3
          go_wp2_with fail
          exact Hq.out
        · have t4 : decide (xt < lw) = false := decide_eq_false h4
          by_cases h5 : high < xt
          · have t5 : decide (high < xt) = true := decide_eq_true h5
            have Hq := Lib.hid (Hp.out false _ HB2.out (by
              rw [Hfd.out]
              show (_ && (_ && (_ && (decide (xt ≤ high) && _)))) = _
              rw [decide_eq_false (by omega : ¬ xt ≤ high)]
              simp))
            clear Hfd h4 h5 d3
            go_wp2_with fail
            exact Hq.out
          · have t5 : decide (high < xt) = false := decide_eq_false h5
            have Hn : Hid (followB es index low high = followB (es.drop (k + 1)) (index + ((k + 1 : Nat) : Int)) xt high) := by
              show _ = _
              rw [Hfd.out]
              show (true && (decide (xi = index + (k : Int) + 1) && (decide (lw ≤ xt) && (decide (xt ≤ high) && followB (es.drop (k + 1)) (index + (k : Int) + 1) xt high)))) = _
              rw [d3, decide_eq_true (by omega : lw ≤ xt), decide_eq_true (by omega : xt ≤ high), show index + (k : Int) + 1 = index + ((k + 1 : Nat) : Int) from by omega]
              rfl
            clear Hfd h4 h5 d3
            go_wp2_with fail
            go_roundw
            case rel => exact ⟨k + 1, xt, rfl, by go_num, hlt, Hn, HB2⟩
            case measure => simp [intOf]; omega
      · have t3 : (xi != index + 1 + (k : Int)) = true := by rw [bne_iff_ne]; exact h3
        have Hq := Lib.hid (Hp.out false _ HB2.out (by
          rw [Hfd.out]
          show (_ && (decide (xi = index + (k : Int) + 1) && _)) = _
          rw [decide_eq_false (by omega : ¬ xi = index + (k : Int) + 1)]
          simp))
        clear Hfd h3
        go_wp2_with fail
        exact Hq.out
    · have hkn : k = es.length := by omega
      have Hq := Lib.hid (Hp.out true _ hb.out (by rw [hf.out, hkn, List.drop_length]; rfl))
      clear hkn hf
      go_wp2_with fail
      exact Hq.out
end Go.Proofs.Ytkcllpbbjlbfaaa
