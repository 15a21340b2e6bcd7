/-
  Tables: may one be? the document's way.
-/
import Derived.Test.YtidiodlemjeelaaTt
namespace Go.Proofs.Ytidiodlemjeelaa
open Go.RowKit Wm Mm
set_option linter.unusedVariables false

set_option maxHeartbeats 4000000 in
set_option maxRecDepth 100000 in
theorem ref_isTable (vp vs : Value) (t : Tab) (w : World) (ht : Table2 w vp vs t) :
    Calls Try.prog 98 #[.agg #[vp, vs, .int .i64 t.time]] w fun e w' => e = .returned (.bool (tabB t)) ∧ Below w.heap.size w w' := by
  obtain ⟨po, pcap, rfl, hpm⟩ := ht.p.slice
  obtain ⟨so, scap, rfl, hm⟩ := ht.s.slice
  obtain ⟨vp, hvp⟩ : ∃ v, v = Value.slice po t.pairs.length pcap := ⟨_, rfl⟩
  obtain ⟨post, HP⟩ := hide (fun (e : Ending) (w' : World) => e = .returned (.bool (tabB t)) ∧ Below w.heap.size w w')
  rw [HP.out]
  obtain ⟨W, hW⟩ := hide (w.alloc (.cells #[.slice po t.pairs.length pcap, .slice so t.sess.length scap, .int .i64 t.time] 25))
  have hc : W.heap[w.heap.size]? = some (.cells #[.slice po t.pairs.length pcap, .slice so t.sess.length scap, .int .i64 t.time] 25 (0, 0)) := by rw [← hW.out]; exact hp_at _ _ rfl
  have hb0 : Below w.heap.size w W := by rw [← hW.out]; exact (Below.refl _ _).alloc (Nat.le_refl _) _
  have HT := Lib.hid (ht.mono hb0)
  have Hx : Hid (∀ w', Below W.heap.size W w' → w'.heap[w.heap.size]? = some (.cells #[.slice po t.pairs.length pcap, .slice so t.sess.length scap, .int .i64 t.time] 25 (0, 0))) := fun w' h => (h.block _ (lt_of_block hc)).trans hc
  have Hp : Hid (∀ z w', Below W.heap.size W w' → tabB t = z → post (.returned (.bool z)) w') := by
    show ∀ z w', _ → _ → _
    intro z w' hw hz; rw [← HP.out, ← hz]; exact ⟨rfl, hb0.trans (hw.mono hb0.size)⟩
  have hdef : tabB t = (pairsB t.pairs && (decide (t.sess.length ≤ 8) && (inB t.time 0 1099511627775 && sessB t.time t.sess))) := rfl
  have Hdef := Lib.hid hdef
  obtain ⟨B, hB⟩ := hide w.heap.size
  rw [hB.out] at Hx
  obtain ⟨r1, hr1⟩ := hide (pairsB t.pairs)
  rw [hr1.out] at Hdef
  have hp1 : ∀ w', Below W.heap.size W w' → Calls Try.prog 192 #[.slice po t.pairs.length pcap] w' fun e w'' => e = .returned (.bool r1) ∧ Below w'.heap.size w' w'' := fun w' h => by
    have := ref_isPairs _ t.pairs w' ((ht.mono hb0).p.mono h)
    rwa [hr1.out] at this
  have HP1 := Lib.hid hp1
  clear hc hb0 ht hdef hp1 hvp vp
  have t8 : decide ((8 : Int) < (t.sess.length : Int)) = !(decide (t.sess.length ≤ 8)) := by rw [← decide_not]; simp only [decide_eq_decide]; omega
  obtain ⟨r2, hr2⟩ := hide (decide (t.sess.length ≤ 8))
  rw [hr2.out] at t8 Hdef
  obtain ⟨m1, hm1⟩ := hide (decide ((0 : Int) ≤ t.time))
  obtain ⟨m2, hm2⟩ := hide (decide (t.time ≤ 1099511627775))
  have e3 : inB t.time 0 1099511627775 = (m1 && m2) := by rw [← hm1.out, ← hm2.out]; rfl
  rw [e3] at Hdef
  have u1 : decide (t.time < 0) = !m1 := by rw [← hm1.out, ← decide_not]; simp only [decide_eq_decide]; omega
  have u2 : decide (1099511627775 < t.time) = !m2 := by rw [← hm2.out, ← decide_not]; simp only [decide_eq_decide]; omega
  clear e3
  have x0 := Hx.out _ (Below.refl _ _)
  have b0 := cell_n x0 0 (v := .slice po t.pairs.length pcap) rfl
  have b1 := cell_n x0 1 (v := .slice so t.sess.length scap) rfl
  have b2 := cell_n x0 2 (v := .int .i64 t.time) rfl
  clear x0
  go_enter Try.func98, Try.ntmps98
  go_upto_region 1 with fail
  rw [hW.out, hB.out]
  go_wp2_with fail
  refine (HP1.out _ (Below.refl _ _)).mono ?_
  rintro e w1 ⟨rfl, hb1⟩
  have Hb1 := Lib.hid hb1
  clear hb1 b0 b1 b2
  have x0 := Hx.out _ Hb1.out
  have b0 := cell_n x0 0 (v := .slice po t.pairs.length pcap) rfl
  have b1 := cell_n x0 1 (v := .slice so t.sess.length scap) rfl
  have b2 := cell_n x0 2 (v := .int .i64 t.time) rfl
  clear x0
  cases r1 with
  | false =>
    have Hq := Lib.hid (Hp.out false _ Hb1.out (by rw [Hdef.out]; rfl))
    go_wp2_with fail
    exact Hq.out
  | true =>
  cases r2 with
  | false =>
    have Hq := Lib.hid (Hp.out false _ Hb1.out (by rw [Hdef.out]; rfl))
    go_wp2_with fail
    exact Hq.out
  | true =>
  cases m1 with
  | false =>
    have Hq := Lib.hid (Hp.out false _ Hb1.out (by rw [Hdef.out]; rfl))
    go_wp2_with fail
    exact Hq.out
  | true =>
  cases m2 with
  | false =>
    have Hq := Lib.hid (Hp.out false _ Hb1.out (by rw [Hdef.out]; rfl))
    go_wp2_with fail
    exact Hq.out
  | true =>
  have hd2 : tabB t = sessB t.time t.sess := by rw [Hdef.out]; rfl
  have Hd2 := Lib.hid hd2
  clear hd2
  go_wp2_with fail
  clear b0 b1 b2
  go_loopw [4] (fun i wr => ∃ k : Nat, i = .int .i64 k ∧ k ≤ t.sess.length ∧ Hid (Below W.heap.size W wr) ∧ Hid (∀ i p, i < k → t.sess[i]? = some p → okSess t.time t.sess i p = true)) (fun i _ => t.sess.length - (intOf i).toNat)
  case atStart => exact ⟨0, rfl, Nat.zero_le _, Hb1.out, fun i p h => by omega⟩
  case round =>
    obtain ⟨k, rfl, hk, hb, hx⟩ := hrel
    have x0 := Hx.out _ hb.out
    have b0 := cell_n x0 0 (v := .slice po t.pairs.length pcap) rfl
    have b1 := cell_n x0 1 (v := .slice so t.sess.length scap) rfl
    have b2 := cell_n x0 2 (v := .int .i64 t.time) rfl
    clear x0
    by_cases hlt : k < t.sess.length
    · obtain ⟨b, off, kv, rfl, hks, hcs⟩ := (HT.out.mono hb.out).s.at hlt
      have hmk : ∀ m, k = m + 1 → ∃ hm : m < t.sess.length, wr.cell? ⟨b, off + m * 7, none⟩ = some (.int .i64 t.sess[m].client) := by
        intro m e
        have hml : m < t.sess.length := by omega
        obtain ⟨b', off', kv', e1, _, c'⟩ := (HT.out.mono hb.out).s.at hml
        injection e1 with e1
        injection e1 with e1 e2
        exact ⟨hml, by rw [e1, e2]; exact c' 0 _ rfl⟩
      have Hmk := Lib.hid hmk
      clear hmk
      have Hno : Hid (okSess t.time t.sess k t.sess[k] = false → ∀ w', Below W.heap.size W w' → post (.returned (.bool false)) w') := by
        show _ → ∀ w', _ → _
        intro h w' hw
        exact Hp.out false w' hw (by rw [Hd2.out, sessB_no hlt h])
      have Hyes : Hid (okSess t.time t.sess k t.sess[k] = true → ∀ i p, i < k + 1 → t.sess[i]? = some p → okSess t.time t.sess i p = true) := by
        show _ → ∀ i p, _ → _ → _
        intro h i p hi hip
        rcases Nat.lt_or_eq_of_le (Nat.le_of_lt_succ hi) with h1 | rfl
        · exact hx.out i p h1 hip
        · rw [List.getElem?_eq_getElem hlt] at hip; cases hip; exact h
      obtain ⟨x, hX⟩ := hide t.sess[k]
      rw [hX.out] at hks hcs Hno Hyes
      obtain ⟨client, last, kind, val, ver, keys, seen⟩ := x
      simp only [] at hks hcs
      obtain ⟨ko, kcap, rfl, _⟩ := hks.slice
      have d0 := hcs 0 (.int .i64 client) rfl
      have d1 := hcs 1 (.int .i64 last) rfl
      have d2 := hcs 2 (.int .i64 kind) rfl
      have d3 := hcs 3 (str val) rfl
      have d4 := hcs 4 (.int .i64 ver) rfl
      have d5 := hcs 5 (.slice ko keys.length kcap) rfl
      have d6 := hcs 6 (.int .i64 seen) rfl
      rw [Nat.add_zero] at d0
      have hok : okSess t.time t.sess k ⟨client, last, kind, val, ver, keys, seen⟩ = (inB client 1 1099511627775 && (prevC t.sess k client && (inB last 0 1099511627775 && (inB seen 0 t.time && resB kind val ver keys)))) := rfl
      have Hok := Lib.hid hok
      have Hks := Lib.hid hks
      obtain ⟨W1, hW1⟩ := hide (wr.alloc (.cells #[.int .i64 client, .int .i64 last, .int .i64 kind, str val, .int .i64 ver, .slice ko keys.length kcap, .int .i64 seen] 136))
      have hq : W1.heap[wr.heap.size]? = some (.cells #[.int .i64 client, .int .i64 last, .int .i64 kind, str val, .int .i64 ver, .slice ko keys.length kcap, .int .i64 seen] 136 (0, 0)) := by rw [← hW1.out]; exact hp_at _ _ rfl
      have hbW : Below W.heap.size W W1 := by rw [← hW1.out]; exact hb.out.alloc hb.out.size _
      have hal : Below wr.heap.size wr W1 := by rw [← hW1.out]; exact (Below.refl _ _).alloc (Nat.le_refl _) _
      have Hal := Lib.hid hal
      have Hq1 := Lib.hid hq
      have HbW := Lib.hid hbW
      clear hok hks hcs hq hbW hal
      have KR := ref_isResult kind val ver _ keys W1 (Hks.out.mono Hal.out)
      obtain ⟨a5, ha5⟩ := hide (resB kind val ver keys)
      rw [ha5.out] at KR Hok
      have KR := Lib.hid KR
      go_upto_region 8 with fail
      rw [hW1.out]
      obtain ⟨Q, hQ⟩ := hide wr.heap.size
      rw [hQ.out] at Hq1 ⊢
      clear d0 d1 d2 d3 d4 d5 d6 b0 b1 b2
      have q0 := cell_n Hq1.out 0 (v := .int .i64 client) rfl
      have q1 := cell_n Hq1.out 1 (v := .int .i64 last) rfl
      have q2 := cell_n Hq1.out 2 (v := .int .i64 kind) rfl
      have q3 := cell_n Hq1.out 3 (v := str val) rfl
      have q4 := cell_n Hq1.out 4 (v := .int .i64 ver) rfl
      have q5 := cell_n Hq1.out 5 (v := .slice ko keys.length kcap) rfl
      have q6 := cell_n Hq1.out 6 (v := .int .i64 seen) rfl
      go_wp2_with fail
      refine KR.out.mono ?_
      rintro e w5 ⟨rfl, hb5⟩
      clear q0 q1 q2 q3 q4 q5 q6
      have Hq5 := Lib.hid ((hb5.block _ (lt_of_block Hq1.out)).trans Hq1.out)
      have Hb5 := Lib.hid (HbW.out.trans (hb5.mono HbW.out.size))
      have q0 := cell_n Hq5.out 0 (v := .int .i64 client) rfl
      have q1 := cell_n Hq5.out 1 (v := .int .i64 last) rfl
      have q2 := cell_n Hq5.out 2 (v := .int .i64 kind) rfl
      have q3 := cell_n Hq5.out 3 (v := str val) rfl
      have q4 := cell_n Hq5.out 4 (v := .int .i64 ver) rfl
      have q5 := cell_n Hq5.out 5 (v := .slice ko keys.length kcap) rfl
      have q6 := cell_n Hq5.out 6 (v := .int .i64 seen) rfl
      have x0 := Hx.out _ Hb5.out
      have b0 := cell_n x0 0 (v := .slice po t.pairs.length pcap) rfl
      have b1 := cell_n x0 1 (v := .slice (some ⟨b, off, none⟩) t.sess.length scap) rfl
      have b2 := cell_n x0 2 (v := .int .i64 t.time) rfl
      clear x0
      have hm5 : ∀ m, k = m + 1 → ∃ hm : m < t.sess.length, w5.cell? ⟨b, off + m * 7, none⟩ = some (.int .i64 t.sess[m].client) := by
        intro m e
        obtain ⟨hml, c'⟩ := Hmk.out m e
        refine ⟨hml, ?_⟩
        have c2 : W1.cell? ⟨b, off + m * 7, none⟩ = some (.int .i64 t.sess[m].client) := by rw [← hW1.out, World.cell?_alloc_lt _ _ _ (World.block_lt_of_cell? _ _ c')]; exact c'
        exact (hb5.cell (p := ⟨b, off + m * 7, none⟩) (World.block_lt_of_cell? _ _ c2)).trans c2
      have Hm5 := Lib.hid hm5
      clear hm5 hb5
      go_upto_region 9 with fail
      go_cut [92] (fun r wx => r = .bool (!(okSess t.time t.sess k ⟨client, last, kind, val, ver, keys, seen⟩)) ∧ Hid (Below W.heap.size W wx))
      case first =>
        cases a5 with
        | false =>
          have HF : Hid (okSess t.time t.sess k ⟨client, last, kind, val, ver, keys, seen⟩ = false) := by show _ = _; rw [Hok.out]; simp
          go_quiet (fail)
          go_wp2
          go_meet
          exact ⟨by rw [HF.out]; rfl, below_drewN Hb5.out _⟩
        | true =>
        by_cases g0 : client < 1
        · have s0 : decide (client < 1) = true := decide_eq_true g0
          have hin : inB client 1 1099511627775 = false := by simp only [inB, Bool.and_eq_false_iff, decide_eq_false_iff_not]; omega
          have HF : Hid (okSess t.time t.sess k ⟨client, last, kind, val, ver, keys, seen⟩ = false) := by show _ = _; rw [Hok.out]; rw [hin]; simp
          clear g0 hin
          go_quiet (fail)
          go_wp2
          go_meet
          exact ⟨by rw [HF.out]; rfl, below_drewN Hb5.out _⟩
        have s0 : decide (client < 1) = false := decide_eq_false g0
        by_cases g1 : 1099511627775 < client
        · have s1 : decide (1099511627775 < client) = true := decide_eq_true g1
          have hin : inB client 1 1099511627775 = false := by simp only [inB, Bool.and_eq_false_iff, decide_eq_false_iff_not]; omega
          have HF : Hid (okSess t.time t.sess k ⟨client, last, kind, val, ver, keys, seen⟩ = false) := by show _ = _; rw [Hok.out]; rw [hin]; simp
          clear g0 g1 hin
          go_quiet (fail)
          go_wp2
          go_meet
          exact ⟨by rw [HF.out]; rfl, below_drewN Hb5.out _⟩
        have s1 : decide (1099511627775 < client) = false := decide_eq_false g1
        by_cases g2 : last < 0
        · have s2 : decide (last < 0) = true := decide_eq_true g2
          have hin : inB last 0 1099511627775 = false := by simp only [inB, Bool.and_eq_false_iff, decide_eq_false_iff_not]; omega
          have HF : Hid (okSess t.time t.sess k ⟨client, last, kind, val, ver, keys, seen⟩ = false) := by show _ = _; rw [Hok.out]; rw [hin]; simp
          clear g0 g1 g2 hin
          go_quiet (fail)
          go_wp2
          go_meet
          exact ⟨by rw [HF.out]; rfl, below_drewN Hb5.out _⟩
        have s2 : decide (last < 0) = false := decide_eq_false g2
        by_cases g3 : 1099511627775 < last
        · have s3 : decide (1099511627775 < last) = true := decide_eq_true g3
          have hin : inB last 0 1099511627775 = false := by simp only [inB, Bool.and_eq_false_iff, decide_eq_false_iff_not]; omega
          have HF : Hid (okSess t.time t.sess k ⟨client, last, kind, val, ver, keys, seen⟩ = false) := by show _ = _; rw [Hok.out]; rw [hin]; simp
          clear g0 g1 g2 g3 hin
          go_quiet (fail)
          go_wp2
          go_meet
          exact ⟨by rw [HF.out]; rfl, below_drewN Hb5.out _⟩
        have s3 : decide (1099511627775 < last) = false := decide_eq_false g3
        by_cases g4 : seen < 0
        · have s4 : decide (seen < 0) = true := decide_eq_true g4
          have hin : inB seen 0 t.time = false := by simp only [inB, Bool.and_eq_false_iff, decide_eq_false_iff_not]; omega
          have HF : Hid (okSess t.time t.sess k ⟨client, last, kind, val, ver, keys, seen⟩ = false) := by show _ = _; rw [Hok.out]; rw [hin]; simp
          clear g0 g1 g2 g3 g4 hin
          go_quiet (fail)
          go_wp2
          go_meet
          exact ⟨by rw [HF.out]; rfl, below_drewN Hb5.out _⟩
        have s4 : decide (seen < 0) = false := decide_eq_false g4
        by_cases g5 : t.time < seen
        · have s5 : decide (t.time < seen) = true := decide_eq_true g5
          have hin : inB seen 0 t.time = false := by simp only [inB, Bool.and_eq_false_iff, decide_eq_false_iff_not]; omega
          have HF : Hid (okSess t.time t.sess k ⟨client, last, kind, val, ver, keys, seen⟩ = false) := by show _ = _; rw [Hok.out]; rw [hin]; simp
          clear g0 g1 g2 g3 g4 g5 hin
          go_quiet (fail)
          go_wp2
          go_meet
          exact ⟨by rw [HF.out]; rfl, below_drewN Hb5.out _⟩
        have s5 : decide (t.time < seen) = false := decide_eq_false g5
        have i1 : inB client 1 1099511627775 = true := by simp only [inB, Bool.and_eq_true, decide_eq_true_eq]; omega
        have i2 : inB last 0 1099511627775 = true := by simp only [inB, Bool.and_eq_true, decide_eq_true_eq]; omega
        have i3 : inB seen 0 t.time = true := by simp only [inB, Bool.and_eq_true, decide_eq_true_eq]; omega
        have HG : Hid (okSess t.time t.sess k ⟨client, last, kind, val, ver, keys, seen⟩ = prevC t.sess k client) := by show _ = _; rw [Hok.out, i1, i2, i3]; simp
        clear g0 g1 g2 g3 g4 g5 i1 i2 i3
        cases k with
        | zero =>
          rw [show (((0 : Nat) : Int)) = 0 from rfl]
          go_quiet (fail)
          go_wp2
          go_meet
          exact ⟨by rw [HG.out]; rfl, below_drewN Hb5.out _⟩
        | succ m =>
        obtain ⟨hml, cm⟩ := Hm5.out m rfl
        have hkp : prevC t.sess (m + 1) client = decide (t.sess[m].client < client) := by rw [prevC, List.getElem?_eq_getElem hml]
        obtain ⟨pc, hpc⟩ := hide t.sess[m].client
        rw [hpc.out] at cm hkp
        have hmi : (m : Int) < (t.sess.length : Int) := by omega
        have Hkp := Lib.hid hkp
        clear hkp
        by_cases hpcc : client ≤ pc
        · have t5 : decide (client ≤ pc) = true := decide_eq_true hpcc
          have Hf : Hid (decide (pc < client) = false) := decide_eq_false (by omega)
          clear hpcc
          go_quiet (fail)
          go_wp2
          go_meet
          exact ⟨by rw [HG.out, Hkp.out, Hf.out]; rfl, below_drewN Hb5.out _⟩
        have t5 : decide (client ≤ pc) = false := decide_eq_false hpcc
        have Hf : Hid (decide (pc < client) = true) := decide_eq_true (by omega)
        clear hpcc
        go_quiet (fail)
        go_wp2
        go_meet
        exact ⟨by rw [HG.out, Hkp.out, Hf.out]; rfl, below_drewN Hb5.out _⟩
      case rest =>
        obtain ⟨rfl, hbx⟩ := hcut
        cases hokk : okSess t.time t.sess k ⟨client, last, kind, val, ver, keys, seen⟩ with
        | true =>
          have Hq := Lib.hid (Hyes.out hokk)
          clear hokk
          go_wp2_with fail
          go_roundw
          case rel => exact ⟨k + 1, by go_num, hlt, hbx, Hq.out⟩
          case measure => simp [intOf]; omega
        | false =>
          have Hq := Lib.hid (Hno.out hokk _ hbx.out)
          clear hokk
          go_wp2_with fail
          exact Hq.out
    · have hkn : k = t.sess.length := by omega
      have Hq := Lib.hid (Hp.out true _ hb.out (by rw [Hd2.out]; exact sessB_all (fun i p hi hip => hx.out i p (by omega) hip)))
      clear hkn
      go_wp2_with fail
      exact Hq.out
end Go.Proofs.Ytidiodlemjeelaa
