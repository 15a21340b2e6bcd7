/-
  RelayExact: the program's relay and the reference's answer the same, whatever the script is: the law answers true and leaves its argument alone.
-/
import Derived.Test.YtckclacdmpcpbaaYo
namespace Go.Proofs.Ytckclacdmpcpbaa
open Go.RowKit Wm Mm Rl
set_option linter.unusedVariables false
set_option linter.unusedSimpArgs false

structure StepP where
  kd : Int
  tgt : Int
  body : List UInt8
  pk : PktP
abbrev rowSt (x : StepP) : List Value := [.int .i64 x.kd, .int .i64 x.tgt, str x.body, .int .i64 x.pk.frm, .int .i64 x.pk.to, .int .i64 x.pk.num, .bool x.pk.ack, str x.pk.body]
abbrev StepsX (F : Nat → Prop) (w : World) (v : Value) (l : List StepP) : Prop := Sl 8 (Plain rowSt) F w v l
/-- how things stand -/
structure StX (w0 w : World) (X Y n : Nat) (r : RelP) : Prop where
  two : Two w0.heap.size (fun _ => False) w X Y r r
  ok : Ok2 n r
  bel : Below w0.heap.size w0 w
theorem StX.new {w0 w w' : World} {X Y n : Nat} {r : RelP} (h : StX w0 w X Y n r) (hb : Below w.heap.size w w') : StX w0 w' X Y n r :=
  ⟨h.two.new hb, h.ok, h.bel.trans (hb.mono h.bel.size)⟩
theorem StX.drewN {w0 w : World} {X Y n : Nat} {r : RelP} (h : StX w0 w X Y n r) (m : Nat) : StX w0 (w.drewN m) X Y n r := h.new ⟨rfl, rfl, rfl, Nat.le_refl _, fun _ _ => rfl⟩
theorem StX.mono {w0 w : World} {X Y n m : Nat} {r : RelP} (h : StX w0 w X Y n r) (hm : n ≤ m) : StX w0 w X Y m r := ⟨h.two, h.ok.mono hm, h.bel⟩
theorem blk_step {w : World} {k : Nat} {xs : Array Value} {t : TypeId} (h : w.heap[k]? = some (.cells xs t (0, 0))) {w' : World} (hb : Below w.heap.size w w') : w'.heap[k]? = some (.cells xs t (0, 0)) := (hb.block k (lt_of_block h)).trans h
theorem rowSt_at {w : World} {b off : Nat} {us : List Value} {y : StepP} (h : us = rowSt y) (hc : ∀ j u, us[j]? = some u → w.cell? ⟨b, off + j, none⟩ = some u) :
    w.cell? ⟨b, off, none⟩ = some (.int .i64 y.kd) ∧ w.cell? ⟨b, off + 1, none⟩ = some (.int .i64 y.tgt) ∧ w.cell? ⟨b, off + 2, none⟩ = some (str y.body) ∧ w.cell? ⟨b, off + 3, none⟩ = some (.int .i64 y.pk.frm) ∧ w.cell? ⟨b, off + 4, none⟩ = some (.int .i64 y.pk.to) ∧ w.cell? ⟨b, off + 5, none⟩ = some (.int .i64 y.pk.num) ∧ w.cell? ⟨b, off + 6, none⟩ = some (.bool y.pk.ack) ∧ w.cell? ⟨b, off + 7, none⟩ = some (str y.pk.body) := by
  subst h
  exact ⟨hc 0 _ rfl, hc 1 _ rfl, hc 2 _ rfl, hc 3 _ rfl, hc 4 _ rfl, hc 5 _ rfl, hc 6 _ rfl, hc 7 _ rfl⟩
theorem rowR_get : ∀ (l : List ParP) (k : Nat) (hk : k < l.length), (l.flatMap rowR)[k * 2]? = some (.int .i64 l[k].frm) ∧ (l.flatMap rowR)[k * 2 + 1]? = some (str l[k].body) := by
  intro l
  induction l with
  | nil => intro k hk; simp at hk
  | cons a r ih =>
    intro k hk
    cases k with
    | zero => exact ⟨rfl, rfl⟩
    | succ k =>
      have := ih k (by simpa using hk)
      rw [List.flatMap_cons, show (k + 1) * 2 = k * 2 + 1 + 1 from by omega]
      exact this
abbrev blkSt (x : StepP) : Obj := .cells #[.int .i64 x.kd, .int .i64 x.tgt, str x.body, .int .i64 x.pk.frm, .int .i64 x.pk.to, .int .i64 x.pk.num, .bool x.pk.ack, str x.pk.body] 36 (0, 0)
set_option maxHeartbeats 8000000 in
set_option maxRecDepth 100000 in
theorem law_relayExact (id : Int) (v : Value) (l : List StepP) (F : Nat → Prop) (w : World) (hv : StepsX F w v l) (hln : l.length ≤ 2199023255552) :
    Calls Try.prog 3 #[.int .i64 id, v] w fun e w' => e = .returned (.bool true) ∧ Below w.heap.size w w' := by
  obtain ⟨ao, cap, rfl, hcap, hmax⟩ := hv.slice
  obtain ⟨n, hn⟩ := hide l.length
  have HF : Hid (∀ w', Below w.heap.size w w' → StepsX F w' (.slice ao n cap) l) := fun w' hb => by rw [← hn.out]; exact hv.frame (Plain.good _) (Agree.below hb)
  rw [hn.out] at hmax hln ⊢
  have K1 := Lib.hid (new_law 1 w)
  have Hln := Lib.hid hln
  clear hv hcap
  go_enter Try.func3, Try.ntmps3
  go_wp2_with fail
  refine K1.out.mono ?_
  rintro e w1 ⟨h1, hb1⟩
  rw [show (decide ((1 : Int) ≤ 1) && decide ((1 : Int) ≤ 9)) = true from by decide] at h1
  simp only [if_true] at h1
  obtain ⟨rfl, hx1⟩ := h1
  have K2 := Lib.hid (send_law (newP 1) 2 [97] _ w1 _ hx1 (fun _ _ => Nat.zero_le _) (fun _ _ => Nat.zero_le _))
  have Hb1 := Lib.hid hb1
  clear hx1 hb1
  go_wp2_with fail
  refine K2.out.mono ?_
  rintro e w2 ⟨rfl, hx2, hc2⟩
  rw [show (sendP (newP 1) 2 [97]).2 = 0 from by decide]
  have Hb2 : Hid (Below w.heap.size w w2) := Hb1.out.trans (hc2.toBelow (fun k hk => hk) Hb1.out.size)
  have K3 := Lib.hid (packets_law _ _ w2 _ hx2 ((Ok2.new 1).send 2 [97]).wt)
  clear hx2 hc2
  go_wp2_with fail
  refine K3.out.mono ?_
  rintro e w3 ⟨v3, rfl, ho3, hb3⟩
  obtain ⟨a3, k3, rfl⟩ := owns_slice ho3
  rw [show (packetsP (sendP (newP 1) 2 [97]).1).length = 1 from by decide]
  have Hb3 : Hid (Below w.heap.size w w3) := Hb2.out.trans (hb3.mono Hb2.out.size)
  have K4 := Lib.hid (new_law id w3)
  clear ho3 hb3 K1 K2 K3
  go_wp2_with fail
  refine K4.out.mono ?_
  rintro e w4 ⟨h4, hb4⟩
  have K5 := Lib.hid (newR_law id w4)
  have Hb4 : Hid (Below w.heap.size w w4) := Hb3.out.trans (hb4.mono Hb3.out.size)
  obtain ⟨bid, hbid⟩ := hide (decide (1 ≤ id) && decide (id ≤ 9))
  rw [hbid.out] at h4 K5
  rcases Bool.eq_false_or_eq_true bid with hb | hb
  rotate_left
  · subst hb
    simp only [Bool.false_eq_true, if_false] at h4 K5
    subst h4
    go_wp2_with fail
    refine K5.out.mono ?_
    rintro e w5 ⟨rfl, hb5⟩
    have Hb5 : Hid (Below w.heap.size w w5) := Hb4.out.trans (hb5.mono Hb4.out.size)
    clear hb5
    go_wp2_with fail
    go_ret
    exact ⟨rfl, Hb5.out⟩
  subst hb
  simp only [if_true] at h4 K5
  obtain ⟨rfl, hx4⟩ := h4
  obtain ⟨X, hX⟩ := hide w3.heap.size
  have Hx4 := Lib.hid hx4
  have Hb34 := Lib.hid hb4
  clear hx4 hb4
  rw [hX.out]
  go_wp2_with fail
  refine K5.out.mono ?_
  rintro e w5 ⟨⟨rfl, hx5⟩, hb5⟩
  obtain ⟨Y, hY⟩ := hide w4.heap.size
  have HT5 : Hid (∃ r, StX w w5 X Y 0 r) := ⟨newP id, two_new Hb3.out.size hX.out.symm Hb34.out (by rw [← hX.out]; exact Hx4.out) hY.out.symm hb5 (by rw [← hY.out]; exact hx5), Ok2.new id, Hb4.out.trans (hb5.mono Hb4.out.size)⟩
  rw [hY.out]
  clear hx5 hb5 K4 K5 Hx4 Hb34
  go_wp2_with fail
  go_loopw [11] (fun s11 wr => ∃ i : Nat, s11 = .int .i64 i ∧ i ≤ n ∧ Hid (∃ r, StX w wr X Y i r)) (fun s _ => n - (intOf s).toNat)
  case atStart => exact ⟨0, rfl, Nat.zero_le _, HT5⟩
  case round =>
    obtain ⟨i, rfl, hi, hx⟩ := hrel
    by_cases hlt : i < n
    · obtain ⟨r, hS⟩ := hx.out
      have hil : i < l.length := by rw [hn.out]; exact hlt
      obtain ⟨b, off, us, rfl, hFb, hlen, hus, hcells⟩ := (HF.out wr hS.bel).at hil
      have hus' : us = rowSt l[i] := hus
      obtain ⟨y, hy⟩ := hide l[i]
      rw [hy.out] at hus'
      obtain ⟨c0, c1, c2, c3, c4, c5, c6, c7⟩ := rowSt_at hus' hcells
      have HS := Lib.hid hS
      have hii : (i : Int) < (n : Int) := by omega
      have hn60 : n ≤ 1152921504606846976 := by have := Hln.out; omega
      obtain ⟨W, hW⟩ := hide (wr.alloc (.cells #[.int .i64 y.kd, .int .i64 y.tgt, str y.body, .int .i64 y.pk.frm, .int .i64 y.pk.to, .int .i64 y.pk.num, .bool y.pk.ack, str y.pk.body] 36))
      clear hcells hus hus' hlen hFb hS hx
      go_upto_region 14 with fail
      rw [hW.out]
      obtain ⟨R, hR⟩ := hide wr.heap.size
      rw [hR.out]
      have HRW : Hid (W.heap[R]? = some (blkSt y)) := by show _ = _; rw [← hW.out, ← hR.out]; exact hp_at _ _ rfl
      have HbW : Hid (Below wr.heap.size wr W) := by show Below _ _ _; rw [← hW.out]; exact (Below.refl _ _).alloc (Nat.le_refl _) _
      have HSW : Hid (StX w W X Y i r) := HS.out.new HbW.out
      have HT : Hid (Two w.heap.size (fun g => g = R) W X Y r r) := (HS.out.two.fresh HbW.out).weak (fun g e => by subst e; rw [← hR.out]; refine ⟨Nat.le_refl _, ?_⟩; rw [← hW.out]; simp)
      have HRl : Hid (∀ g, g = R → g < W.heap.size) := fun g e => by subst e; exact lt_of_block HRW.out
      have q0 := cell_n HRW.out 0 (v := .int .i64 y.kd) rfl
      have q1 := cell_n HRW.out 1 (v := .int .i64 y.tgt) rfl
      have q2 := cell_n HRW.out 2 (v := str y.body) rfl
      have q3 := cell_n HRW.out 3 (v := .int .i64 y.pk.frm) rfl
      have q4 := cell_n HRW.out 4 (v := .int .i64 y.pk.to) rfl
      have q5 := cell_n HRW.out 5 (v := .int .i64 y.pk.num) rfl
      have q6 := cell_n HRW.out 6 (v := .bool y.pk.ack) rfl
      have q7 := cell_n HRW.out 7 (v := str y.pk.body) rfl
      have hi60 : i ≤ 1152921504606846976 := by omega
      clear c0 c1 c2 c3 c4 c5 c6 c7
      cases k1 : (y.kd == 1)
      · cases k3 : (y.kd == 3)
        · cases k2 : (y.kd == 2)
          · have HE : Hid (∃ r, StX w W X Y (i + 1) r) := ⟨r, HSW.out.mono (by omega)⟩
            go_wp2_with fail
            go_roundw
            case rel => exact ⟨i + 1, by go_num, by omega, HE⟩
            case measure => simp [intOf]; omega
          · have KP := Lib.hid (HSW.out.two.packetsX HSW.out.ok)
            have hpl := HSW.out.ok.packets
            obtain ⟨m, hm⟩ := hide (packetsP r).length
            have hpm : m ≤ 160 := by rw [← hm.out]; exact hpl
            clear q1 q2 q3 q4 q5 q6 q7
            go_wp2_with fail
            refine KP.out.mono ?_
            rintro e w2 ⟨v2, rfl, ho2, hb2⟩
            obtain ⟨a2, k2', rfl⟩ := owns_slice ho2
            have HS2 : Hid (StX w w2 X Y i r) := HSW.out.new hb2
            have HT2 : Hid (Two w.heap.size (fun g => W.heap.size ≤ g ∧ g < w2.heap.size) w2 X Y r r) := HSW.out.two.fresh hb2
            have KY := Lib.hid (HS2.out.two.packetsY HS2.out.ok)
            have Ho2 := Lib.hid ho2
            have Hb2 := Lib.hid hb2
            rw [hm.out]
            clear ho2 hb2 KP
            go_wp2_with fail
            refine KY.out.mono ?_
            rintro e w3 ⟨v3, rfl, ho3, hb3⟩
            have Ho23 : Hid (w3.ownsRow W.heap.size 34 5 (.slice a2 (packetsP r).length k2') (packetsP r).length ((packetsP r).flatMap rowP)) := own_below Ho2.out hb3
            have KS := Lib.hid (samePackets_law (packetsP r) _ _ _ _ w3 Ho23.out ho3 (by omega))
            rw [hm.out] at KS
            have HS3 : Hid (StX w w3 X Y i r) := HS2.out.new hb3
            have HT3 : Hid (Two w.heap.size (fun g => W.heap.size ≤ g ∧ g < w2.heap.size) w3 X Y r r) := HT2.out.new hb3
            have Hz3 : Hid (W.heap.size ≤ w3.heap.size) := Nat.le_trans Hb2.out.size hb3.size
            clear ho3 hb3 KY
            go_wp2_with fail
            refine KS.out.mono ?_
            rintro e w4 ⟨rfl, m4, rfl⟩
            have Ho4 : Hid ((w3.drewN m4).ownsRow W.heap.size 34 5 (.slice a2 m k2') m ((packetsP r).flatMap rowP)) := by show World.ownsRow _ _ _ _ _ _ _; rw [← hm.out]; exact World.ownsRow.drewN' Ho23.out m4
            have KO := Lib.hid (overPackets_law _ m W.heap.size _ (w3.drewN m4) Ho4.out (by omega) Hz3.out)
            go_wp2_with fail
            refine KO.out.mono ?_
            rintro e w5 ⟨rfl, hg5⟩
            have HE : Hid (∃ r, StX w w5 X Y (i + 1) r) := by
              have hc : Chg (fun g => W.heap.size ≤ g ∧ g < w2.heap.size) (w3.drewN m4) w5 := Chg.grown hg5 (fun b hb => ⟨(Ho4.out.lt b hb).1, (Ho2.out.lt b (by rw [hm.out]; exact hb)).2⟩)
              refine ⟨r, ((HT3.out.new (w' := w3.drewN m4) ⟨rfl, rfl, rfl, Nat.le_refl _, fun _ _ => rfl⟩).keep hc).weak (fun _ h => h.elim), HSW.out.ok.mono (by omega), HS3.out.bel.trans (Below.trans (b := w3.drewN m4) ⟨rfl, rfl, rfl, Nat.le_refl _, fun _ _ => rfl⟩ (hc.toBelow (fun k hk => Nat.le_trans HSW.out.bel.size hk.1) HS3.out.bel.size))⟩
            clear hg5
            go_wp2_with fail
            go_roundw
            case rel => exact ⟨i + 1, by go_num, by omega, HE⟩
            case measure => simp [intOf]; omega
        · have KX := Lib.hid (HT.out.recvX HSW.out.ok hi60 y.pk)
          go_wp2_with fail
          refine KX.out.mono ?_
          rintro e w2 ⟨pv, av, rfl, hp2, hv2, hT2, hb2, hag2⟩
          obtain ⟨pa, pc, rfl⟩ := owns_slice hp2
          obtain ⟨va, vc, rfl⟩ := owns_slice hv2
          obtain ⟨hl1, hl2⟩ := recv_few r y.pk
          have HRw : Hid (w2.heap[R]? = some (blkSt y)) := (hag2.2 R rfl (lt_of_block HRW.out)).trans HRW.out
          have HN2 : Hid (∀ g, (g = R ∨ (W.heap.size ≤ g ∧ g < w2.heap.size)) → g < w2.heap.size) := fun g e => e.elim (fun e => by subst e; exact lt_of_block HRw.out) (fun e => e.2)
          have KY := Lib.hid (hT2.recvY HN2.out HSW.out.ok hi60 y.pk)
          have Hb2 := Lib.hid hb2
          have Hz2 : Hid (W.heap.size ≤ w2.heap.size) := hag2.1
          have Hp2 := Lib.hid hp2
          have Hv2 := Lib.hid hv2
          clear q0 q1 q2 q3 q4 q5 q6 q7 KX hT2 hb2 hag2 hp2 hv2
          have q3 := cell_n HRw.out 3 (v := .int .i64 y.pk.frm) rfl
          have q4 := cell_n HRw.out 4 (v := .int .i64 y.pk.to) rfl
          have q5 := cell_n HRw.out 5 (v := .int .i64 y.pk.num) rfl
          have q6 := cell_n HRw.out 6 (v := .bool y.pk.ack) rfl
          have q7 := cell_n HRw.out 7 (v := str y.pk.body) rfl
          go_wp2_with fail
          refine KY.out.mono ?_
          rintro e w3 ⟨pv3, av3, rfl, hp3, hv3, hT3, hb3, hag3⟩
          have HP3 : Hid (w3.ownsRow W.heap.size 42 2 (.slice pa (recvP r y.pk).2.1.length pc) (recvP r y.pk).2.1.length ((recvP r y.pk).2.1.flatMap rowR)) := own_agree Hp2.out hag3 (fun g e => Or.inr (Hp2.out.lt g e))
          have HV3 : Hid (w3.ownsRow W.heap.size 34 5 (.slice va (recvP r y.pk).2.2.length vc) (recvP r y.pk).2.2.length ((recvP r y.pk).2.2.flatMap rowP)) := own_agree Hv2.out hag3 (fun g e => Or.inr (Hv2.out.lt g e))
          have KS := Lib.hid (samePackets_law (recvP r y.pk).2.2 _ _ _ _ w3 HV3.out hv3 (by omega))
          obtain ⟨pb, pd, rfl⟩ := owns_slice hp3
          have Hp3 := Lib.hid hp3
          have Hz3 : Hid (W.heap.size ≤ w3.heap.size) := Nat.le_trans Hz2.out hag3.1
          have HT3 := Lib.hid hT3
          have Hb3 := Lib.hid hb3
          have Hok := Lib.hid (HSW.out.ok.recv y.pk)
          obtain ⟨pl, hpl⟩ := hide (recvP r y.pk).2.1
          obtain ⟨al, hal⟩ := hide (recvP r y.pk).2.2
          obtain ⟨r', hr'⟩ := hide (recvP r y.pk).1
          rw [hal.out] at KS HV3 hl2 Hv2
          rw [hpl.out] at HP3 hl1 Hp3 Hp2
          rw [hr'.out] at HT3 Hok
          rw [hal.out, hpl.out]
          obtain ⟨pn, hpn⟩ := hide pl.length
          obtain ⟨an, han⟩ := hide al.length
          rw [hpn.out] at HP3 hl1 Hp3 Hp2
          rw [han.out] at KS HV3 hl2 Hv2
          rw [hpn.out, han.out]
          clear q3 q4 q5 q6 q7 hp3 hv3 hT3 hb3 hag3 KY
          go_wp2_with fail
          refine KS.out.mono ?_
          rintro e w4 ⟨rfl, m4, hw4⟩
          have HP4 : Hid (w4.ownsRow W.heap.size 42 2 (.slice pa pn pc) pn (pl.flatMap rowR)) := by show World.ownsRow _ _ _ _ _ _ _; rw [hw4]; exact World.ownsRow.drewN' HP3.out m4
          have HV4 : Hid (w4.ownsRow W.heap.size 34 5 (.slice va an vc) an (al.flatMap rowP)) := by show World.ownsRow _ _ _ _ _ _ _; rw [hw4]; exact World.ownsRow.drewN' HV3.out m4
          have HQ4 : Hid (w4.ownsRow w2.heap.size 42 2 (.slice pb pn pd) pn (pl.flatMap rowR)) := by show World.ownsRow _ _ _ _ _ _ _; rw [hw4]; exact World.ownsRow.drewN' Hp3.out m4
          have HT4 : Hid (Two w.heap.size (fun g => g = R ∨ (W.heap.size ≤ g ∧ g < w2.heap.size)) w4 X Y r' r') := by show Two _ _ _ _ _ _ _; rw [hw4]; exact HT3.out.new ⟨rfl, rfl, rfl, Nat.le_refl _, fun _ _ => rfl⟩
          have Hb4 : Hid (Below w.heap.size w w4) := by show Below _ _ _; rw [hw4]; exact (HSW.out.bel.trans (Hb2.out.trans Hb3.out)).trans ⟨rfl, rfl, rfl, Nat.le_refl _, fun _ _ => rfl⟩
          have Hz4 : Hid (W.heap.size ≤ w4.heap.size) := by show _ ≤ _; rw [hw4]; exact Hz3.out
          clear hw4 KS
          go_wp2_with fail
          go_loopw [20] (fun s wx => ∃ k : Nat, ∃ ys : List Value, s = .int .i64 k ∧ k ≤ pn ∧ Hid (wx.ownsRow W.heap.size 42 2 (.slice pa pn pc) pn ys) ∧ Hid (k = 0 → ys = pl.flatMap rowR) ∧ Hid (w4.grownBy wx (Value.slice pa pn pc).ownBlock)) (fun s _ => pn - (intOf s).toNat)
          case atStart => exact ⟨0, _, rfl, Nat.zero_le _, HP4, fun _ => rfl, ⟨rfl, rfl, rfl, Nat.le_refl _, fun _ _ _ => rfl⟩⟩
          case round =>
            obtain ⟨k, ys, rfl, hk, ho, hys, hg⟩ := hrel
            obtain ⟨V, hV⟩ : ∃ V, V = wr := ⟨_, rfl⟩
            by_cases hkl : k < pn
            · have hk0 : k = 0 := by omega
              have e1 := hys.out hk0
              have hkp : k < pl.length := by rw [hpn.out]; exact hkl
              obtain ⟨g1, k1', e2⟩ := own_ptr ho.out (by omega)
              injection e2 with e2 e2' e2''
              subst e2 e2''
              obtain ⟨g2, k2', e3⟩ := own_ptr HQ4.out (by omega)
              injection e3 with e3 e3' e3''
              subst e3 e3''
              obtain ⟨z, hz⟩ := hide pl[k]
              have hq : World.ownsRow wr w2.heap.size 42 2 (.slice (some ⟨g2, 0, none⟩) pn pd) pn (pl.flatMap rowR) := HQ4.out.kept hg.out (Or.inr (fun e => by
                have h1 : g2 = g1 := by simpa [Value.ownBlock] using e
                have h2 := (Hp2.out.lt g1 rfl).2
                have h3 := (HQ4.out.lt g2 rfl).1
                omega))
              have ho1 := ho.out
              rw [e1] at ho1
              obtain ⟨x0, x1⟩ := rowR_get pl k hkp
              rw [hz.out] at x0 x1
              have u0 := own_cell ho1 x0
              have u1 := own_cell ho1 x1
              have t0 := own_cell hq x0
              have t1 := own_cell hq x1
              have hki : (k : Int) < (pn : Int) := by omega
              clear e1 hq ho1 x0 x1 e2' e3' hk0
              go_upto_region 29 with fail
              go_cut [137] (fun s wx => s = .bool false ∧ Hid (∃ m, wx = wr.drewN m))
              case first =>
                go_quiet (fail)
                go_wp2_with fail
                go_meet
                exact ⟨by simp, ⟨_, rfl⟩⟩
              case rest =>
                obtain ⟨U, hU⟩ : ∃ U, U = wc := ⟨_, rfl⟩
                subst hU
                obtain ⟨rfl, hm1⟩ := hcut
                obtain ⟨m1, hU⟩ := hm1.out
                have HoU : Hid (U.ownsRow W.heap.size 42 2 (.slice (some ⟨g1, 0, none⟩) pn pc) pn ys) := by show World.ownsRow _ _ _ _ _ _ _; rw [hU]; exact World.ownsRow.drewN' ho.out m1
                have HgU : Hid (w4.grownBy U (Value.slice (some ⟨g1, 0, none⟩) pn pc).ownBlock) := by show World.grownBy _ _ _; rw [hU]; exact grown_trans hg.out ⟨rfl, rfl, rfl, Nat.le_refl _, fun _ _ _ => rfl⟩
                have hl := HoU.out.1
                have y0 := own_cell HoU.out (i := k * 2) (List.getElem?_eq_getElem (by omega))
                have y1 := own_cell HoU.out (i := k * 2 + 1) (List.getElem?_eq_getElem (by omega))
                have f0 := own_free HoU.out (k * 2)
                have f1 := own_free HoU.out (k * 2 + 1)
                obtain ⟨a0, ha0⟩ := hide (ys[k * 2]'(by omega))
                obtain ⟨a1, ha1⟩ := hide (ys[k * 2 + 1]'(by omega))
                rw [ha0.out] at y0
                rw [ha1.out] at y1
                have Ho3 := Lib.hid (own_put (own_put HoU.out (k * 2) (.int .i64 (-7))) (k * 2 + 1) (str []))
                have Hg3 := Lib.hid (grown_trans (grown_trans HgU.out (grown_setCell U ⟨g1, k * 2, none⟩ (.int .i64 (-7)))) (grown_setCell _ ⟨g1, k * 2 + 1, none⟩ (str [])))
                have Hy3 : Hid (k + 1 = 0 → (ys.set (k * 2) (.int .i64 (-7))).set (k * 2 + 1) (str []) = pl.flatMap rowR) := fun e => by omega
                clear hU hm1 u0 u1 t0 t1
                go_wp2_with fail
                go_roundw
                case rel => exact ⟨k + 1, _, by go_num, hkl, Ho3, Hy3, Hg3⟩
                case measure => simp [intOf]; omega
            · have hkn : k = pn := by omega
              have HV5 : Hid (World.ownsRow wr W.heap.size 34 5 (.slice va an vc) an (al.flatMap rowP)) := HV4.out.kept hg.out (own_ne HV4.out HP4.out (by decide))
              have Hg := Lib.hid hg.out
              have KO := Lib.hid (overPackets_law _ an W.heap.size _ wr HV5.out (by omega) (Nat.le_trans Hz4.out hg.out.size))
              go_wp2_with fail
              refine KO.out.mono ?_
              rintro e w5 ⟨rfl, hg5⟩
              have HE : Hid (∃ r, StX w w5 X Y (i + 1) r) := by
                have hc1 : Chg (fun g => g = R ∨ (W.heap.size ≤ g ∧ g < w2.heap.size)) w4 wr := Chg.grown Hg.out (fun b hb => Or.inr (Hp2.out.lt b hb))
                have hc2 : Chg (fun g => g = R ∨ (W.heap.size ≤ g ∧ g < w2.heap.size)) wr w5 := Chg.grown hg5 (fun b hb => Or.inr (Hv2.out.lt b hb))
                have hA : ∀ k, (k = R ∨ (W.heap.size ≤ k ∧ k < w2.heap.size)) → w.heap.size ≤ k := fun k hk => hk.elim (fun e => by rw [e, ← hR.out]; exact HS.out.bel.size) (fun e => Nat.le_trans HSW.out.bel.size e.1)
                exact ⟨r', ((HT4.out.keep hc1).keep hc2).weak (fun _ h => h.elim), Hok.out, Hb4.out.trans ((hc1.toBelow hA Hb4.out.size).trans (hc2.toBelow hA (Nat.le_trans Hb4.out.size hc1.size)))⟩
              clear hg5
              go_wp2_with fail
              go_roundw
              case rel => exact ⟨i + 1, by go_num, by omega, HE⟩
              case measure => simp [intOf]; omega
      · have KX := Lib.hid (HT.out.sendX HRl.out HSW.out.ok hi60 y.tgt y.body)
        go_wp2_with fail
        refine KX.out.mono ?_
        rintro e w2 ⟨rfl, hT2, hb2, ha2⟩
        have HRw : Hid (w2.heap[R]? = some (blkSt y)) := (ha2.2 R rfl (lt_of_block HRW.out)).trans HRW.out
        have HRl2 : Hid (∀ g, g = R → g < w2.heap.size) := fun g e => by subst e; exact lt_of_block HRw.out
        have KY := Lib.hid (hT2.sendY HRl2.out HSW.out.ok hi60 y.tgt y.body)
        have Hb2 := Lib.hid hb2
        clear q0 q1 q2 q3 q4 q5 q6 q7 KX hT2 hb2 ha2
        have q1 := cell_n HRw.out 1 (v := .int .i64 y.tgt) rfl
        have q2 := cell_n HRw.out 2 (v := str y.body) rfl
        go_wp2_with fail
        refine KY.out.mono ?_
        rintro e w3 ⟨rfl, hT3, hb3, ha3⟩
        have HE : Hid (∃ r, StX w w3 X Y (i + 1) r) := ⟨_, hT3.weak (fun _ h => h.elim), HSW.out.ok.send _ _, HSW.out.bel.trans (Hb2.out.trans hb3)⟩
        obtain ⟨ec, hec⟩ := hide (sendP r y.tgt y.body).2
        rw [hec.out]
        clear q1 q2 hT3 hb3 ha3 KY
        go_wp2_with fail
        go_roundw
        case rel => exact ⟨i + 1, by go_num, by omega, HE⟩
        case measure => simp [intOf]; omega
    · obtain rfl : i = n := by omega
      obtain ⟨r, hS⟩ := hx.out
      have HS := Lib.hid hS
      have KP := Lib.hid (hS.two.packetsX hS.ok)
      have hpl := hS.ok.packets
      obtain ⟨m, hm⟩ := hide (packetsP r).length
      have hpm : m ≤ 160 := by rw [← hm.out]; exact hpl
      clear hS hx hpl
      go_wp2_with fail
      refine KP.out.mono ?_
      rintro e w2 ⟨v2, rfl, ho2, hb2⟩
      have HS2 : Hid (StX w w2 X Y i r) := HS.out.new hb2
      have KY := Lib.hid (HS2.out.two.packetsY HS2.out.ok)
      have Ho2 := Lib.hid ho2
      clear ho2 hb2 KP
      go_wp2_with fail
      refine KY.out.mono ?_
      rintro e w3 ⟨v3, rfl, ho3, hb3⟩
      have Ho23 : Hid (w3.ownsRow wr.heap.size 34 5 v2 (packetsP r).length ((packetsP r).flatMap rowP)) := own_below Ho2.out hb3
      have KS := Lib.hid (samePackets_law (packetsP r) _ _ _ _ w3 Ho23.out ho3 (by rw [hm.out]; omega))
      have HS3 : Hid (StX w w3 X Y i r) := HS2.out.new hb3
      clear ho3 hb3 KY
      go_wp2_with fail
      refine KS.out.mono ?_
      rintro e w4 ⟨rfl, m4, rfl⟩
      have HE : Hid (Below w.heap.size w (w3.drewN m4)) := (HS3.out.drewN m4).bel
      go_wp2_with fail
      go_ret
      exact ⟨rfl, HE.out⟩
end Go.Proofs.Ytckclacdmpcpbaa
