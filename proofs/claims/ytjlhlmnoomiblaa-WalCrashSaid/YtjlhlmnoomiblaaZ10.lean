/-
  May a log be? both ways.
-/
import Derived.Test.YtjlhlmnoomiblaaZ06
import Derived.Test.YtjlhlmnoomiblaaZ09
namespace Go.Proofs.Ytjlhlmnoomiblaa
open Go.RowKit Wm Mm Lg
set_option linter.unusedVariables false
set_option linter.unusedSimpArgs false

def headB (base bt : Int) : Bool := inB base 0 1099511627775 && (inB bt 0 1099511627775 && ((base == 0) == (bt == 0)))
def lowT (bt : Int) (es : List EntP) : Nat → Int
  | 0 => bt
  | j + 1 => match es[j]? with | none => bt | some e => e.trm
def okAtL (base bt : Int) (es : List EntP) (k : Nat) (e : EntP) : Bool := isEntry e.idx e.trm e.knd e.dat && ((e.idx == base + 1 + k) && !(decide (e.trm < lowT bt es k)))
def allB (base bt : Int) (es : List EntP) : Bool := (List.range es.length).all (fun i => match es[i]? with | none => true | some p => okAtL base bt es i p)
def logB (base bt : Int) (es : List EntP) : Bool := headB base bt && allB base bt es
theorem allB_no {base bt : Int} {es : List EntP} {k : Nat} (hk : k < es.length) (h : okAtL base bt es k es[k] = false) : allB base bt es = false := by
  rw [allB, List.all_eq_false]
  exact ⟨k, List.mem_range.2 hk, by rw [List.getElem?_eq_getElem hk]; simp [h]⟩
theorem allB_all {base bt : Int} {es : List EntP} (h : ∀ i p, i < es.length → es[i]? = some p → okAtL base bt es i p = true) : allB base bt es = true := by
  rw [allB, List.all_eq_true]
  intro i hi
  have hl := List.mem_range.1 hi
  rw [List.getElem?_eq_getElem hl]
  exact h i _ hl (by simp [hl])
theorem logB_ok {base bt : Int} {es : List EntP} (h : logB base bt es = true) (hn : es.length ≤ 3518437208883) : Ok base es := by
  unfold logB headB at h
  simp only [Bool.and_eq_true] at h
  obtain ⟨⟨h1, _⟩, h2⟩ := h
  unfold inB at h1
  simp at h1
  have hat : ∀ k (hk : k < es.length), okAtL base bt es k es[k] = true := by
    intro k hk
    unfold allB at h2
    rw [List.all_eq_true] at h2
    have := h2 k (List.mem_range.2 hk)
    rw [List.getElem?_eq_getElem hk] at this
    exact this
  have hidx : ∀ k (hk : k < es.length), es[k].idx = base + 1 + k ∧ es[k].idx ≤ 1099511627775 := by
    intro k hk
    have := hat k hk
    unfold okAtL isEntry inB at this
    simp at this
    exact ⟨this.2.1, this.1.1.2⟩
  refine ⟨h1.1, h1.2, ?_, fun k hk => (hidx k hk).1⟩
  rcases Nat.eq_zero_or_pos es.length with h0 | h0
  · omega
  · have := hidx (es.length - 1) (by omega)
    omega

set_option maxHeartbeats 4000000 in
set_option maxRecDepth 100000 in
theorem wire_valid (base bt : Int) (ev : Value) (es : List EntP) (F : Nat → Prop) (w : World) (h : Ents F w ev es) (hn : es.length ≤ 3518437208883) :
    Calls Try.prog 33 #[vLog base bt ev] w fun e w' => e = .returned (.bool (logB base bt es)) ∧ Below w.heap.size w w' := by
  obtain ⟨post, HP⟩ := hide (fun (e : Ending) (w' : World) => e = .returned (.bool (logB base bt es)) ∧ Below w.heap.size w w')
  rw [HP.out]
  obtain ⟨ao, cap, rfl, hcap, hmax⟩ := h.slice
  obtain ⟨W, hW⟩ := hide (w.alloc (.cells (oLog base bt (.slice ao es.length cap)) 29))
  have hc : W.heap[w.heap.size]? = some (.cells (oLog base bt (.slice ao es.length cap)) 29 (0, 0)) := by rw [← hW.out]; exact hp_at _ _ rfl
  have hb0 : Below w.heap.size w W := by rw [← hW.out]; exact (Below.refl _ _).alloc (Nat.le_refl _) _
  have h2 := h.frame (Plain.good _) (Agree.below hb0)
  have HF : Hid (∀ w', Below W.heap.size W w' → Ents F w' (.slice ao es.length cap) es) := fun w' hb => h2.frame (Plain.good _) (Agree.below hb)
  have Hp : Hid (∀ z w', Below W.heap.size W w' → logB base bt es = z → post (.returned (.bool z)) w') := by
    show ∀ z w', _ → _ → _
    intro z w' hw hz; rw [← HP.out, ← hz]; exact ⟨rfl, hb0.trans (hw.mono hb0.size)⟩
  obtain ⟨B, hB⟩ := hide w.heap.size
  rw [hB.out] at hc
  have Hx := Lib.hid (logKept (w := w) hc)
  have c0 := cell_n hc 0 (v := .int .i64 base) rfl
  have c1 := cell_n hc 1 (v := .int .i64 bt) rfl
  have c2 := cell_n hc 2 (v := .slice ao es.length cap) rfl
  have Hb0 := Lib.hid hb0
  have Hn := Lib.hid hn
  clear hc h h2 hb0
  go_enter Try.func33, Try.ntmps33
  go_upto_region 1 with fail
  rw [hW.out, hB.out]
  have hd : logB base bt es = (headB base bt && allB base bt es) := rfl
  have Hd := Lib.hid hd
  clear hd
  by_cases a1 : base < 0
  · have Hq := Lib.hid (Hp.out false _ (Below.refl _ _) (by rw [Hd.out, headB, inB, decide_eq_false (by omega : ¬ 0 ≤ base)]; rfl))
    go_wp2_with fail
    exact Hq.out
  by_cases a2 : 1099511627775 < base
  · have Hq := Lib.hid (Hp.out false _ (Below.refl _ _) (by rw [Hd.out, headB, inB, decide_eq_false (by omega : ¬ base ≤ 1099511627775)]; simp))
    go_wp2_with fail
    exact Hq.out
  by_cases a3 : bt < 0
  · have Hq := Lib.hid (Hp.out false _ (Below.refl _ _) (by rw [Hd.out, headB]; simp only [inB]; rw [decide_eq_false (by omega : ¬ 0 ≤ bt)]; simp))
    go_wp2_with fail
    exact Hq.out
  by_cases a4 : 1099511627775 < bt
  · have Hq := Lib.hid (Hp.out false _ (Below.refl _ _) (by rw [Hd.out, headB]; simp only [inB]; rw [decide_eq_false (by omega : ¬ bt ≤ 1099511627775)]; simp))
    go_wp2_with fail
    exact Hq.out
  have hbb : headB base bt = ((base == 0) == (bt == 0)) := by
    simp only [headB, inB]
    rw [decide_eq_true (by omega : (0 : Int) ≤ base), decide_eq_true (by omega : base ≤ 1099511627775), decide_eq_true (by omega : (0 : Int) ≤ bt), decide_eq_true (by omega : bt ≤ 1099511627775)]; rfl
  have Hbb := Lib.hid hbb
  clear hbb
  have hzz : ((base == 0) = true ∧ (bt == 0) = false) ∨ ((base == 0) = false ∧ (bt == 0) = true) ∨ ((base == 0) = (bt == 0)) := by
    cases (base == 0) <;> cases (bt == 0) <;> simp
  rcases hzz with ⟨z1, z2⟩ | ⟨z1, z2⟩ | z12
  · have Hq := Lib.hid (Hp.out false _ (Below.refl _ _) (by rw [Hd.out, Hbb.out, z1, z2]; rfl))
    go_wp2_with fail
    exact Hq.out
  · have Hq := Lib.hid (Hp.out false _ (Below.refl _ _) (by rw [Hd.out, Hbb.out, z1, z2]; rfl))
    go_wp2_with fail
    exact Hq.out
  have hla : logB base bt es = allB base bt es := by rw [Hd.out, Hbb.out, z12]; simp
  have Hla := Lib.hid hla
  obtain ⟨zb, hz1⟩ := hide (base == 0)
  have z1 : (base == 0) = zb := hz1.out
  have z2 : (bt == 0) = zb := by rw [← z12]; exact hz1.out
  have z3 : (zb != zb) = false := by cases zb <;> rfl
  clear hla z12
  cases zb
  all_goals
    go_wp2_with fail
    go_loopw [3, 4, 38] (fun lt _ i wr => ∃ k : Nat, i = .int .i64 k ∧ lt = .int .i64 (lowT bt es k) ∧ k ≤ es.length ∧ Hid (Below W.heap.size W wr) ∧ Hid (∀ i p, i < k → es[i]? = some p → okAtL base bt es i p = true)) (fun _ _ i _ => es.length - (intOf i).toNat)
    case atStart => exact ⟨0, rfl, rfl, Nat.zero_le _, Below.refl _ _, fun i p h => by omega⟩
    case round =>
      clear c0 c1 c2
      obtain ⟨k, rfl, rfl, hk, hb, hx⟩ := hrel
      have x0 := Hx.out _ hb.out
      have c0 := cell_n x0 0 (v := .int .i64 base) rfl
      clear x0
      by_cases hlt : k < es.length
      · obtain ⟨b, off, us, rfl, _, _, hus, hcs⟩ := (HF.out _ hb.out).at hlt
        have Hno : Hid (okAtL base bt es k es[k] = false → ∀ w', Below W.heap.size W w' → post (.returned (.bool false)) w') := by
          show _ → ∀ w', _ → _
          intro h w' hw
          exact Hp.out false w' hw (by rw [Hla.out, allB_no hlt h])
        have Hyes : Hid (okAtL base bt es k es[k] = true → ∀ i p, i < k + 1 → es[i]? = some p → okAtL base bt es i p = true) := by
          show _ → ∀ i p, _ → _ → _
          intro h i p hi hip
          rcases Nat.lt_or_eq_of_le (Nat.le_of_lt_succ hi) with h1 | rfl
          · exact hx.out i p h1 hip
          · rw [List.getElem?_eq_getElem hlt] at hip; cases hip; exact h
        have hlow : lowT bt es (k + 1) = es[k].trm := by rw [lowT, List.getElem?_eq_getElem hlt]
        obtain ⟨x, hX⟩ := hide es[k]
        rw [hX.out] at hus Hno Hyes hlow
        have e1 : us = rowE x := hus
        subst e1
        have d0 := hcs 0 _ rfl
        have d1 := hcs 1 _ rfl
        have d2 := hcs 2 _ rfl
        have d3 := hcs 3 _ rfl
        rw [Nat.add_zero] at d0
        obtain ⟨V1, hV1⟩ := hide (wr.alloc (.cells #[.int .i64 x.idx, .int .i64 x.trm, .int .i64 x.knd, str x.dat] 37))
        have hq : V1.heap[wr.heap.size]? = some (.cells #[.int .i64 x.idx, .int .i64 x.trm, .int .i64 x.knd, str x.dat] 37 (0, 0)) := by rw [← hV1.out]; exact hp_at _ _ rfl
        have hbV : Below W.heap.size W V1 := by rw [← hV1.out]; exact hb.out.alloc hb.out.size _
        obtain ⟨Q, hQ⟩ := hide wr.heap.size
        rw [hQ.out] at hq
        have HK := Lib.hid (wire_isEntry x.idx x.trm x.knd x.dat V1)
        obtain ⟨r1, hr1⟩ := hide (isEntry x.idx x.trm x.knd x.dat)
        rw [hr1.out] at HK
        have hok : okAtL base bt es k x = (r1 && ((x.idx == base + 1 + k) && !(decide (x.trm < lowT bt es k)))) := by rw [okAtL, hr1.out]
        have Hok := Lib.hid hok
        have Hlow := Lib.hid hlow
        obtain ⟨lo, hlo⟩ := hide (lowT bt es k)
        rw [hlo.out] at Hok
        rw [hlo.out]
        have Hq := Lib.hid hq
        have HbV := Lib.hid hbV
        clear hq hbV hok hlow hcs hus
        go_upto_region 7 with fail
        rw [hV1.out, hQ.out]
        clear d0 d1 d2 d3 c0
        have d0 := cell_n Hq.out 0 (v := .int .i64 x.idx) rfl
        have d1 := cell_n Hq.out 1 (v := .int .i64 x.trm) rfl
        have d2 := cell_n Hq.out 2 (v := .int .i64 x.knd) rfl
        have d3 := cell_n Hq.out 3 (v := str x.dat) rfl
        go_wp2_with fail
        refine HK.out.mono ?_
        rintro e V2 ⟨rfl, hv2⟩
        have hb2 : Below W.heap.size W V2 := by rw [← hv2]; exact HbV.out.alloc HbV.out.size _
        have hq2 : V2.heap[Q]? = some (.cells #[.int .i64 x.idx, .int .i64 x.trm, .int .i64 x.knd, str x.dat] 37 (0, 0)) := by rw [← hv2]; exact (hp_past _ _ (by have := lt_of_block Hq.out; omega)).trans Hq.out
        have x0 := Hx.out _ hb2
        have c0 := cell_n x0 0 (v := .int .i64 base) rfl
        clear d0 d1 d2 d3 hv2 x0
        have d0 := cell_n hq2 0 (v := .int .i64 x.idx) rfl
        have d1 := cell_n hq2 1 (v := .int .i64 x.trm) rfl
        have Hb2 := Lib.hid hb2
        clear hb2 hq2
        cases r1 with
        | false =>
          have Hq9 := Lib.hid (Hno.out (by rw [Hok.out]; rfl) _ Hb2.out)
          go_wp2_with fail
          exact Hq9.out
        | true =>
        have hk3 : (k : Int) ≤ 3518437208883 := by have := Hn.out; omega
        by_cases i1 : x.idx = base + 1 + k
        · have u1 : (x.idx == base + 1 + (k : Int)) = true := beq_iff_eq.2 i1
          have u2 : (x.idx != base + 1 + (k : Int)) = false := by rw [bne, u1]; rfl
          have I1 := Lib.hid i1
          clear i1
          by_cases i2 : x.trm < lo
          · have Hq9 := Lib.hid (Hno.out (by rw [Hok.out, u1, decide_eq_true i2]; rfl) _ Hb2.out)
            go_wp2_with fail
            exact Hq9.out
          · have Hq9 := Lib.hid (Hyes.out (by rw [Hok.out, u1, decide_eq_false i2]; rfl))
            go_wp2_with fail
            go_roundw
            case rel => exact ⟨k + 1, by go_num, by rw [Hlow.out], hlt, Hb2, Hq9⟩
            case measure => simp [intOf]; omega
        · have u1 : (x.idx == base + 1 + (k : Int)) = false := beq_eq_false_iff_ne.2 i1
          have u2 : (x.idx != base + 1 + (k : Int)) = true := by rw [bne, u1]; rfl
          have Hq9 := Lib.hid (Hno.out (by rw [Hok.out, u1]; rfl) _ Hb2.out)
          clear i1
          go_wp2_with fail
          exact Hq9.out
      · have Hq9 := Lib.hid (Hp.out true _ hb.out (by rw [Hla.out, allB_all (fun i p hi hip => hx.out i p (by omega) hip)]))
        go_wp2_with fail
        exact Hq9.out

end Go.Proofs.Ytjlhlmnoomiblaa
