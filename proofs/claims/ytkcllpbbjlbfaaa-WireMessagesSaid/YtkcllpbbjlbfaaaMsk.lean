/-
  Reading messages, the panicking reader's way: the closure.
-/
import Derived.Test.YtkcllpbbjlbfaaaMsj
namespace Go.Proofs.Ytkcllpbbjlbfaaa
open Go.RowKit Wm Mm Lg
set_option linter.unusedVariables false
set_option linter.unusedSimpArgs false

theorem grown_of_below {w W w2 : World} {r : Option Nat} (h : w.grownBy W r) (hb : Below W.heap.size W w2) : w.grownBy w2 r :=
  ⟨hb.os.trans h.os, hb.tape.trans h.tape, hb.output.trans h.output, Nat.le_trans h.size hb.size, fun k hk hr => (hb.block k (Nat.lt_of_lt_of_le hk h.size)).trans (h.block k hk hr)⟩
set_option maxHeartbeats 4000000 in
set_option maxRecDepth 100000 in
theorem getMessage_f {b : Nat} {s : List UInt8} {w : World} (h : Rd w b s) :
    Calls Try.prog 22 #[.pointer (some ⟨b, 0, none⟩)] w (GetsMsg w.heap.size b w (rdMsg s)) := by
  obtain ⟨res, HR⟩ := hide (rdMsg s)
  rw [HR.out]
  have hbw : b < w.heap.size := lt_of_block h.1
  obtain ⟨w0, hW⟩ := hide (w.alloc (.cells zeroMsg.toArray 29))
  have hc : w0.heap[w.heap.size]? = some (.cells zeroMsg.toArray 29 (0, 0)) := by rw [← hW.out]; exact hp_at _ _ rfl
  have hg : w.grownBy w0 (some b) := by rw [← hW.out]; exact World.grownBy_alloc w _ _
  have hr : Rd w0 b s := h.kept (by rw [← hW.out]; exact World.grownBy_alloc w _ none) (by simp)
  have Hc0 := Lib.hid hc
  have Hg0 := Lib.hid hg
  have Hr0 := Lib.hid hr
  have Hne : Hid (some w.heap.size ≠ some b) := by show _ ≠ _; simp; omega
  have Hs0 : Hid (w.heap.size < w0.heap.size) := lt_of_block hc
  have Hbw := Lib.hid hbw
  have hrd0 : rdMsg s = res := HR.out
  unfold rdMsg at hrd0
  have HR0 := Lib.hid hrd0
  clear hc hg hr h hbw hrd0
  go_enter Try.func22, Try.ntmps22
  go_wp2_with fail
  rw [hW.out]
  refine (number_rd Hr0.out).mono ?_
  intro e w1 hp
  cases hx : rdNum s with
  | error z =>
    rw [hx] at hp
    obtain rfl : .error z = res := by have hh := HR0.out; rw [hx] at hh; exact hh
    obtain ⟨rfl, hg⟩ := hp
    have Hge := Lib.hid (grown_trans Hg0.out hg)
    clear hg hx
    go_wp2_with fail
    exact ⟨rfl, rfl, Hge.out⟩
  | ok p =>
  obtain ⟨k, s1⟩ := p
  rw [hx] at hp
  have hrd := HR0.out
  rw [hx] at hrd
  simp only [] at hrd
  have HR1 := Lib.hid hrd
  obtain ⟨rfl, hr, hg⟩ := hp
  have Hr1 := Lib.hid hr
  have Hc1 := Lib.hid ((hg.block _ Hs0.out Hne.out).trans Hc0.out)
  have Hs1 := Lib.hid (Nat.lt_of_lt_of_le Hs0.out hg.size)
  have Hg1 := Lib.hid (grown_trans Hg0.out hg)
  clear hr hg hx hrd
  go_wp2_with fail
  refine (number_rd Hr1.out).mono ?_
  intro e w2 hp
  cases hx : rdNum s1 with
  | error z =>
    rw [hx] at hp
    obtain rfl : .error z = res := by have hh := HR1.out; rw [hx] at hh; exact hh
    obtain ⟨rfl, hg⟩ := hp
    have Hge := Lib.hid (grown_trans Hg1.out hg)
    clear hg hx
    go_wp2_with fail
    exact ⟨rfl, rfl, Hge.out⟩
  | ok p =>
  obtain ⟨f, s2⟩ := p
  rw [hx] at hp
  have hrd := HR1.out
  rw [hx] at hrd
  simp only [] at hrd
  have HR2 := Lib.hid hrd
  obtain ⟨rfl, hr, hg⟩ := hp
  have Hr2 := Lib.hid hr
  have Hc2 := Lib.hid ((hg.block _ Hs1.out Hne.out).trans Hc1.out)
  have Hs2 := Lib.hid (Nat.lt_of_lt_of_le Hs1.out hg.size)
  have Hg2 := Lib.hid (grown_trans Hg1.out hg)
  clear hr hg hx hrd
  go_wp2_with fail
  refine (number_rd Hr2.out).mono ?_
  intro e w3 hp
  cases hx : rdNum s2 with
  | error z =>
    rw [hx] at hp
    obtain rfl : .error z = res := by have hh := HR2.out; rw [hx] at hh; exact hh
    obtain ⟨rfl, hg⟩ := hp
    have Hge := Lib.hid (grown_trans Hg2.out hg)
    clear hg hx
    go_wp2_with fail
    exact ⟨rfl, rfl, Hge.out⟩
  | ok p =>
  obtain ⟨d, s3⟩ := p
  rw [hx] at hp
  have hrd := HR2.out
  rw [hx] at hrd
  simp only [] at hrd
  have HR3 := Lib.hid hrd
  obtain ⟨rfl, hr, hg⟩ := hp
  have Hr3 := Lib.hid hr
  have Hc3 := Lib.hid ((hg.block _ Hs2.out Hne.out).trans Hc2.out)
  have Hs3 := Lib.hid (Nat.lt_of_lt_of_le Hs2.out hg.size)
  have Hg3 := Lib.hid (grown_trans Hg2.out hg)
  clear hr hg hx hrd
  go_wp2_with fail
  refine (number_rd Hr3.out).mono ?_
  intro e w4 hp
  cases hx : rdNum s3 with
  | error z =>
    rw [hx] at hp
    obtain rfl : .error z = res := by have hh := HR3.out; rw [hx] at hh; exact hh
    obtain ⟨rfl, hg⟩ := hp
    have Hge := Lib.hid (grown_trans Hg3.out hg)
    clear hg hx
    go_wp2_with fail
    exact ⟨rfl, rfl, Hge.out⟩
  | ok p =>
  obtain ⟨t, s4⟩ := p
  rw [hx] at hp
  have hrd := HR3.out
  rw [hx] at hrd
  simp only [] at hrd
  have HR4 := Lib.hid hrd
  obtain ⟨rfl, hr, hg⟩ := hp
  have Hr4 := Lib.hid hr
  have Hc4 := Lib.hid ((hg.block _ Hs3.out Hne.out).trans Hc3.out)
  have Hs4 := Lib.hid (Nat.lt_of_lt_of_le Hs3.out hg.size)
  have Hg4 := Lib.hid (grown_trans Hg3.out hg)
  clear hr hg hx hrd
  obtain ⟨W5, hW5⟩ := hide (w4.alloc (.cells (rowMsg (msg0 k f d t) (.slice none 0 0) (.slice none 0 0) (.slice none 0 0) (.slice none 0 0)).toArray 29))
  have hc5 : W5.heap[w.heap.size]? = some (.cells zeroMsg.toArray 29 (0, 0)) := by rw [← hW5.out]; exact (hp_past _ _ (by have := Hs4.out; omega)).trans Hc4.out
  have hr5 : Rd W5 b s4 := Hr4.out.kept (by rw [← hW5.out]; exact World.grownBy_alloc w4 _ none) (by simp)
  have hg5 : w.grownBy W5 (some b) := by rw [← hW5.out]; exact grown_trans Hg4.out (World.grownBy_alloc w4 _ _)
  have hq5 : W5.heap[w4.heap.size]? = some (.cells (rowMsg (msg0 k f d t) (.slice none 0 0) (.slice none 0 0) (.slice none 0 0) (.slice none 0 0)).toArray 29 (0, 0)) := by rw [← hW5.out]; exact hp_at _ _ rfl
  have Hst : Hid (LocSt w W5 b w.heap.size w4.heap.size 29 zeroMsg (rowMsg (msg0 k f d t) (.slice none 0 0) (.slice none 0 0) (.slice none 0 0) (.slice none 0 0)) s4) := ⟨hc5, hq5, hr5, hg5⟩
  have HBQ : Hid (w.heap.size < w4.heap.size) := Hs4.out
  clear hc5 hr5 hg5 hq5
  go_upto_region 2 with fail
  rw [hW5.out]
  obtain ⟨Q, hQ⟩ := hide w4.heap.size
  obtain ⟨B, hB⟩ := hide w.heap.size
  rw [hQ.out, hB.out] at Hst HBQ
  rw [hB.out] at Hbw
  rw [hQ.out, hB.out]
  have c0 := cell_n Hst.out.loc 0 (v := .int .i64 (k : Nat)) rfl
  go_upto_block 0 with fail
  clear c0
  go_cut [] from 15 to 77 (fun wc => ∃ (m : Msg) (ev x y z : Value) (u' : List UInt8), Hid (LocSt w wc b B Q 29 zeroMsg (rowMsg m ev x y z) u') ∧ Hid (MsgF (Q + 1) wc ev x y z m) ∧ Hid (okMsg (.ok (m, u')) = res))
  case first =>
    rename_i J' K' hJ' hK'
    by_cases k1 : k = 1 ∨ k = 3
    · refine getM_ask k f d t s4 res _ b B Q w W5 Hst hB Hbw HBQ HR4 k1 K' ?_
      unfold Hid
      intros
      refine hK' _ _ (Met.intro (hJ' _ _ ?_))
      (repeat apply Exists.intro)
      refine ⟨?_, rfl⟩
      rename_i hr
      exact hr
    by_cases k2 : k = 2 ∨ k = 4
    · refine getM_rep k f d t s4 res _ b B Q w W5 Hst hB Hbw HBQ HR4 k2 K' ?_
      unfold Hid
      intros
      refine hK' _ _ (Met.intro (hJ' _ _ ?_))
      (repeat apply Exists.intro)
      refine ⟨?_, rfl⟩
      rename_i hr
      exact hr
    by_cases k5 : k = 5
    · refine getM_app k f d t s4 res _ b B Q w W5 Hst hB Hbw HBQ HR4 k5 K' ?_
      unfold Hid
      intros
      refine hK' _ _ (Met.intro (hJ' _ _ ?_))
      (repeat apply Exists.intro)
      refine ⟨?_, rfl⟩
      rename_i hr
      exact hr
    by_cases k6 : k = 6
    · refine getM_back k f d t s4 res _ b B Q w W5 Hst hB Hbw HBQ HR4 k6 K' ?_
      unfold Hid
      intros
      refine hK' _ _ (Met.intro (hJ' _ _ ?_))
      (repeat apply Exists.intro)
      refine ⟨?_, rfl⟩
      rename_i hr
      exact hr
    by_cases k7 : k = 7
    · refine getM_inst k f d t s4 res _ b B Q w W5 Hst hB Hbw HBQ HR4 k7 K' ?_
      unfold Hid
      intros
      refine hK' _ _ (Met.intro (hJ' _ _ ?_))
      (repeat apply Exists.intro)
      refine ⟨?_, rfl⟩
      rename_i hr
      exact hr
    · refine getM_none k f d t s4 res _ b B Q w W5 Hst hB Hbw HBQ HR4 (by omega) K' ?_
      unfold Hid
      intros
      refine hK' _ _ (Met.intro (hJ' _ _ ?_))
      (repeat apply Exists.intro)
      refine ⟨?_, rfl⟩
      rename_i hr
      exact hr
  case rest =>
    obtain ⟨m, ev, x, y, z, u', hst, hmf, hm⟩ := hcut
    obtain ⟨W6, hW6⟩ : ∃ V, V = wc := ⟨_, rfl⟩
    subst hW6
    obtain ⟨ae, ce, rfl, _, _⟩ := hmf.out.e.slice
    obtain ⟨ax, cx, rfl⟩ := hmf.out.c.v.len
    obtain ⟨ay, cy, rfl⟩ := hmf.out.c.n.len
    obtain ⟨az, cz, rfl⟩ := hmf.out.c.l.len
    have KI := Lib.hid (wire_isMessage m _ _ _ _ _ W6 hmf.out.e hmf.out.c.conf)
    go_upto_region 19 with fail
    refine wp_region_lit ?_
    refine wpList_load_row rfl 29 (.tmp 3) rfl Q rfl 29 (rowMsg m (.slice ae m.ents.length ce) (.slice ax m.sc.v.length cx) (.slice ay m.sc.n.length cy) (.slice az m.sc.l.length cz)).toArray (0, 0) _ hst.out.loc Try.underlying29 rfl size_msg ?_
    go_wp2_with fail
    refine KI.out.mono ?_
    rintro e w7 ⟨rfl, hb7⟩
    have Hg7 : Hid (w.grownBy w7 (some b)) := grown_of_below hst.out.grown hb7
    have Hr7 : Hid (Rd w7 b u') := ⟨(hb7.block b (lt_of_block hst.out.rd.1)).trans hst.out.rd.1, hst.out.rd.2⟩
    have HB7 : Hid (w7.heap[B]? = some (.cells zeroMsg.toArray 29 (0, 0))) := (hb7.block B (lt_of_block hst.out.res)).trans hst.out.res
    have HQ7 : Hid (w7.heap[Q]? = some (.cells (rowMsg m (.slice ae m.ents.length ce) (.slice ax m.sc.v.length cx) (.slice ay m.sc.n.length cy) (.slice az m.sc.l.length cz)).toArray 29 (0, 0))) := (hb7.block Q (lt_of_block hst.out.loc)).trans hst.out.loc
    have Hmf7 := Lib.hid (hmf.out.up (Up.ofBelow (S := Q + 1) hb7) (Nat.le_refl _))
    clear hb7
    cases hok : isMsg m with
    | false =>
      obtain rfl : .error 7 = res := by rw [← hm.out, okMsg, hok]; rfl
      clear hok
      go_wp2_with (go_at_call 28; refine (fail_any _ _).mono ?_; rintro e w' ⟨rfl, rfl⟩)
      exact ⟨rfl, rfl, Hg7.out⟩
    | true =>
      obtain rfl : .ok (m, u') = res := by rw [← hm.out, okMsg, if_pos hok]
      clear hok
      have hth : w7.there B 0 17 := there_of HB7.out
      have Hth := Lib.hid hth
      clear hth
      have HE : Hid (GetsMsg B b w (.ok (m, u')) (.returned (.agg (rowMsg m (.slice ae m.ents.length ce) (.slice ax m.sc.v.length cx) (.slice ay m.sc.n.length cy) (.slice az m.sc.l.length cz)).toArray)) (setAll w7 B (rowMsg m (.slice ae m.ents.length ce) (.slice ax m.sc.v.length cx) (.slice ay m.sc.n.length cy) (.slice az m.sc.l.length cz)))) := by
        show GetsMsg _ _ _ _ _ _
        refine ⟨_, _, _, _, rfl, (Hmf7.out.up (Up.setAll (S := Q + 1) w7 (by have := HBQ.out; omega) _) (Nat.le_refl _)).base (by have := HBQ.out; omega), ⟨setAll_other Hr7.out.1 (by have := Hbw.out; omega) _, Hr7.out.2⟩, setAll_grown Hg7.out (by rw [hB.out]; exact Nat.le_refl _) _⟩
      have HER : Hid ((setAll w7 B (rowMsg m (.slice ae m.ents.length ce) (.slice ax m.sc.v.length cx) (.slice ay m.sc.n.length cy) (.slice az m.sc.l.length cz))).heap[B]? = some (.cells (rowMsg m (.slice ae m.ents.length ce) (.slice ax m.sc.v.length cx) (.slice ay m.sc.n.length cy) (.slice az m.sc.l.length cz)).toArray 29 (0, 0))) := setAll_at (xs := zeroMsg) HB7.out _ rfl
      go_upto_region 21 with fail
      refine wp_region_lit ?_
      refine wpList_load_row rfl 29 (.tmp 3) rfl Q rfl 29 (rowMsg m (.slice ae m.ents.length ce) (.slice ax m.sc.v.length cx) (.slice ay m.sc.n.length cy) (.slice az m.sc.l.length cz)).toArray (0, 0) _ HQ7.out Try.underlying29 rfl size_msg ?_
      refine wpList_store_mid rfl 29 (.tmp 2) (.tmp 82) rfl B 0 (rowMsg m (.slice ae m.ents.length ce) (.slice ax m.sc.v.length cx) (.slice ay m.sc.n.length cy) (.slice az m.sc.l.length cz)).toArray rfl rfl Hth.out size_msg (by simp [Value.oneCell']) ?_
      rw [setCells_eq]
      show wpList _ _ _ [] _ (setAll w7 B (rowMsg m (.slice ae m.ents.length ce) (.slice ax m.sc.v.length cx) (.slice ay m.sc.n.length cy) (.slice az m.sc.l.length cz)))
      generalize setAll w7 B (rowMsg m (.slice ae m.ents.length ce) (.slice ax m.sc.v.length cx) (.slice ay m.sc.n.length cy) (.slice az m.sc.l.length cz)) = W9 at HE HER ⊢
      go_wp2_with fail
      refine bodyPost_ret (results_cell_row rfl _ W9 B 29 (rowMsg m (.slice ae m.ents.length ce) (.slice ax m.sc.v.length cx) (.slice ay m.sc.n.length cy) (.slice az m.sc.l.length cz)).toArray (0, 0) _ rfl HER.out Try.underlying29 rfl size_msg) rfl ?_
      first | exact HE.out | (rw [hB.out]; exact HE.out)
end Go.Proofs.Ytkcllpbbjlbfaaa
