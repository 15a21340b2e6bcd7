/-
  Tables: may one be? both ways.
-/
import Derived.Test.YtbonmeogmjfkeaaTr
import Derived.Lib.QuietBelow
namespace Go.Proofs.Ytbonmeogmjfkeaa
open Go.RowKit Wm Mm
set_option linter.unusedVariables false

structure SessP where
  client : Int
  last : Int
  kind : Int
  val : List UInt8
  ver : Int
  keys : List (List UInt8)
  seen : Int
abbrev rowSess (s : SessP) (kv : Value) : List Value := [.int .i64 s.client, .int .i64 s.last, .int .i64 s.kind, str s.val, .int .i64 s.ver, kv, .int .i64 s.seen]
abbrev SessR (w : World) (vs : List Value) (s : SessP) : Prop := ∃ kv, vs = rowSess s kv ∧ Strs w kv s.keys
abbrev Sessions (w : World) (v : Value) (l : List SessP) : Prop := RecsP 7 SessR w v l
theorem Sessions.mono {w w' : World} {v : Value} {l : List SessP} (h : Sessions w v l) (hb : Below w.heap.size w w') : Sessions w' v l :=
  RecsP.mono (fun vs x ⟨kv, h1, h2⟩ => ⟨kv, h1, h2.mono hb⟩) h hb
theorem Sessions.at {w : World} {a : Option Addr} {n c : Nat} {l : List SessP} (h : Sessions w (.slice a n c) l) {k : Nat} (hk : k < l.length) : ∃ b off kv, a = some ⟨b, off, none⟩ ∧ Strs w kv l[k].keys ∧ (∀ i u, (rowSess l[k] kv)[i]? = some u → w.cell? ⟨b, off + k * 7 + i, none⟩ = some u) := by
  obtain ⟨ao, cap, he, h1, h2⟩ := h
  obtain ⟨b, off, rfl, h3⟩ := h1 (pairs_ne hk)
  injection he with e1 e2 e3
  obtain ⟨vs, _, ⟨kv, rfl, h5⟩, h4⟩ := h3 k l[k] (by simp [hk])
  exact ⟨b, off, kv, e1, h5, h4⟩
def prevC (l : List SessP) : Nat → Int → Bool
  | 0, _ => true
  | j + 1, x => match l[j]? with | none => true | some y => decide (y.client < x)
def okSess (time : Int) (l : List SessP) (i : Nat) (s : SessP) : Bool := inB s.client 1 1099511627775 && (prevC l i s.client && (inB s.last 0 1099511627775 && (inB s.seen 0 time && resB s.kind s.val s.ver s.keys)))
def sessB (time : Int) (l : List SessP) : Bool := (List.range l.length).all (fun i => match l[i]? with | none => true | some p => okSess time l i p)
structure Tab where
  pairs : List PairP
  sess : List SessP
  time : Int
def tabB (t : Tab) : Bool := pairsB t.pairs && (decide (t.sess.length ≤ 8) && (inB t.time 0 1099511627775 && sessB t.time t.sess))
/-- two slices are this table -/
structure Table2 (w : World) (vp vs : Value) (t : Tab) : Prop where
  p : Pairs w vp t.pairs
  s : Sessions w vs t.sess
theorem Table2.mono {w w' : World} {vp vs : Value} {t : Tab} (h : Table2 w vp vs t) (hb : Below w.heap.size w w') : Table2 w' vp vs t := ⟨h.p.mono hb, h.s.mono hb⟩
theorem sessB_no {time : Int} {l : List SessP} {k : Nat} (hk : k < l.length) (h : okSess time l k l[k] = false) : sessB time l = false := by
  rw [sessB, List.all_eq_false]
  exact ⟨k, List.mem_range.2 hk, by rw [List.getElem?_eq_getElem hk]; simp [h]⟩
theorem sessB_all {time : Int} {l : List SessP} (h : ∀ i p, i < l.length → l[i]? = some p → okSess time l i p = true) : sessB time l = true := by
  rw [sessB, List.all_eq_true]
  intro i hi
  have hl := List.mem_range.1 hi
  rw [List.getElem?_eq_getElem hl]
  exact h i _ hl (by simp [hl])

set_option maxHeartbeats 4000000 in
set_option maxRecDepth 100000 in
theorem wire_isTable (vp vs : Value) (t : Tab) (w : World) (ht : Table2 w vp vs t) :
    Calls Try.prog 126 #[.agg #[vp, vs, .int .i64 t.time]] w fun e w' => e = .returned (.bool (tabB t)) ∧ Below w.heap.size w w' := by
  obtain ⟨po, pcap, rfl, hpm⟩ := ht.p.slice
  obtain ⟨so, scap, rfl, hm⟩ := ht.s.slice
  obtain ⟨vp, hvp⟩ : ∃ v, v = Value.slice po t.pairs.length pcap := ⟨_, rfl⟩
  obtain ⟨post, HP⟩ := hide (fun (e : Ending) (w' : World) => e = .returned (.bool (tabB t)) ∧ Below w.heap.size w w')
  rw [HP.out]
  obtain ⟨W, hW⟩ := hide (w.alloc (.cells #[.slice po t.pairs.length pcap, .slice so t.sess.length scap, .int .i64 t.time] 109))
  have hc : W.heap[w.heap.size]? = some (.cells #[.slice po t.pairs.length pcap, .slice so t.sess.length scap, .int .i64 t.time] 109 (0, 0)) := by rw [← hW.out]; exact hp_at _ _ rfl
  have hb0 : Below w.heap.size w W := by rw [← hW.out]; exact (Below.refl _ _).alloc (Nat.le_refl _) _
  have HT := Lib.hid (ht.mono hb0)
  have Hx : Hid (∀ w', Below W.heap.size W w' → w'.heap[w.heap.size]? = some (.cells #[.slice po t.pairs.length pcap, .slice so t.sess.length scap, .int .i64 t.time] 109 (0, 0))) := fun w' h => (h.block _ (lt_of_block hc)).trans hc
  have Hp : Hid (∀ z w', Below W.heap.size W w' → tabB t = z → post (.returned (.bool z)) w') := by
    show ∀ z w', _ → _ → _
    intro z w' hw hz; rw [← HP.out, ← hz]; exact ⟨rfl, hb0.trans (hw.mono hb0.size)⟩
  have hdef : tabB t = (pairsB t.pairs && (decide (t.sess.length ≤ 8) && (inB t.time 0 1099511627775 && sessB t.time t.sess))) := rfl
  have Hdef := Lib.hid hdef
  obtain ⟨B, hB⟩ := hide w.heap.size
  rw [hB.out] at Hx
  obtain ⟨r1, hr1⟩ := hide (pairsB t.pairs)
  rw [hr1.out] at Hdef
  have hp1 : ∀ w', Below W.heap.size W w' → Calls Try.prog 163 #[.slice po t.pairs.length pcap] w' fun e w'' => e = .returned (.bool r1) ∧ Below w'.heap.size w' w'' := fun w' h => by
    have := wire_isPairs _ t.pairs w' ((ht.mono hb0).p.mono h)
    rwa [hr1.out] at this
  have HP1 := Lib.hid hp1
  clear hc hb0 ht hdef hp1 hvp vp
  have t8 : decide ((8 : Int) < (t.sess.length : Int)) = !(decide (t.sess.length ≤ 8)) := by rw [← decide_not]; simp only [decide_eq_decide]; omega
  obtain ⟨r2, hr2⟩ := hide (decide (t.sess.length ≤ 8))
  rw [hr2.out] at t8 Hdef
  have K3 := Lib.hid (fun w' => in_any t.time 0 1099511627775 w')
  obtain ⟨r3, hr3⟩ := hide (inB t.time 0 1099511627775)
  rw [hr3.out] at K3 Hdef
  have x0 := Hx.out _ (Below.refl _ _)
  have b0 := cell_n x0 0 (v := .slice po t.pairs.length pcap) rfl
  have b1 := cell_n x0 1 (v := .slice so t.sess.length scap) rfl
  have b2 := cell_n x0 2 (v := .int .i64 t.time) rfl
  clear x0
  go_enter Try.func126, Try.ntmps126
  go_upto_region 1 with fail
  rw [hW.out, hB.out]
  go_wp2_with fail
  refine (HP1.out _ (Below.refl _ _)).mono ?_
  rintro e w1 ⟨rfl, hb1⟩
  have Hb1 := Lib.hid hb1
  clear hb1 b0 b1 b2
  have x0 := Hx.out _ Hb1.out
  have b0 := cell_n x0 0 (v := .slice po t.pairs.length pcap) rfl
  have b1 := cell_n x0 1 (v := .slice so t.sess.length scap) rfl
  have b2 := cell_n x0 2 (v := .int .i64 t.time) rfl
  clear x0
  cases r1 with
  | false =>
    have Hq := Lib.hid (Hp.out false _ Hb1.out (by rw [Hdef.out]; rfl))
    go_wp2_with fail
    exact Hq.out
  | true =>
  cases r2 with
  | false =>
    have Hq := Lib.hid (Hp.out false _ Hb1.out (by rw [Hdef.out]; rfl))
    go_wp2_with fail
    exact Hq.out
  | true =>
  go_wp2_with fail
  refine (K3.out _).mono ?_
  rintro e w' ⟨rfl, rfl⟩
  cases r3 with
  | false =>
    have Hq := Lib.hid (Hp.out false _ Hb1.out (by rw [Hdef.out]; rfl))
    go_wp2_with fail
    exact Hq.out
  | true =>
  have hd2 : tabB t = sessB t.time t.sess := by rw [Hdef.out]; rfl
  have Hd2 := Lib.hid hd2
  clear hd2
  go_wp2_with fail
  clear b0 b1 b2
  go_loopw [24] (fun i wr => ∃ k : Nat, i = .int .i64 k ∧ k ≤ t.sess.length ∧ Hid (Below W.heap.size W wr) ∧ Hid (∀ i p, i < k → t.sess[i]? = some p → okSess t.time t.sess i p = true)) (fun i _ => t.sess.length - (intOf i).toNat)
  case atStart => exact ⟨0, rfl, Nat.zero_le _, Hb1.out, fun i p h => by omega⟩
  case round =>
    obtain ⟨k, rfl, hk, hb, hx⟩ := hrel
    by_cases hlt : k < t.sess.length
    · obtain ⟨b, off, kv, rfl, hks, hcs⟩ := (HT.out.mono hb.out).s.at hlt
      have hmk : ∀ m, k = m + 1 → ∃ hm : m < t.sess.length, wr.cell? ⟨b, off + m * 7, none⟩ = some (.int .i64 t.sess[m].client) := by
        intro m e
        have hml : m < t.sess.length := by omega
        obtain ⟨b', off', kv', e1, _, c'⟩ := (HT.out.mono hb.out).s.at hml
        injection e1 with e1
        injection e1 with e1 e2
        exact ⟨hml, by rw [e1, e2]; exact c' 0 _ rfl⟩
      have Hmk := Lib.hid hmk
      clear hmk
      have Hno : Hid (okSess t.time t.sess k t.sess[k] = false → ∀ w', Below W.heap.size W w' → post (.returned (.bool false)) w') := by
        show _ → ∀ w', _ → _
        intro h w' hw
        exact Hp.out false w' hw (by rw [Hd2.out, sessB_no hlt h])
      have Hyes : Hid (okSess t.time t.sess k t.sess[k] = true → ∀ i p, i < k + 1 → t.sess[i]? = some p → okSess t.time t.sess i p = true) := by
        show _ → ∀ i p, _ → _ → _
        intro h i p hi hip
        rcases Nat.lt_or_eq_of_le (Nat.le_of_lt_succ hi) with h1 | rfl
        · exact hx.out i p h1 hip
        · rw [List.getElem?_eq_getElem hlt] at hip; cases hip; exact h
      obtain ⟨x, hX⟩ := hide t.sess[k]
      rw [hX.out] at hks hcs Hno Hyes
      obtain ⟨client, last, kind, val, ver, keys, seen⟩ := x
      simp only [] at hks hcs
      obtain ⟨ko, kcap, rfl, _⟩ := hks.slice
      have d0 := hcs 0 (.int .i64 client) rfl
      have d1 := hcs 1 (.int .i64 last) rfl
      have d2 := hcs 2 (.int .i64 kind) rfl
      have d3 := hcs 3 (str val) rfl
      have d4 := hcs 4 (.int .i64 ver) rfl
      have d5 := hcs 5 (.slice ko keys.length kcap) rfl
      have d6 := hcs 6 (.int .i64 seen) rfl
      rw [Nat.add_zero] at d0
      have hok : okSess t.time t.sess k ⟨client, last, kind, val, ver, keys, seen⟩ = (inB client 1 1099511627775 && (prevC t.sess k client && (inB last 0 1099511627775 && (inB seen 0 t.time && resB kind val ver keys)))) := rfl
      have Hok := Lib.hid hok
      have Hks := Lib.hid hks
      obtain ⟨W1, hW1⟩ := hide (wr.alloc (.cells #[.int .i64 client, .int .i64 last, .int .i64 kind, str val, .int .i64 ver, .slice ko keys.length kcap, .int .i64 seen] 192))
      have hq : W1.heap[wr.heap.size]? = some (.cells #[.int .i64 client, .int .i64 last, .int .i64 kind, str val, .int .i64 ver, .slice ko keys.length kcap, .int .i64 seen] 192 (0, 0)) := by rw [← hW1.out]; exact hp_at _ _ rfl
      have hbW : Below W.heap.size W W1 := by rw [← hW1.out]; exact hb.out.alloc hb.out.size _
      have hal : Below wr.heap.size wr W1 := by rw [← hW1.out]; exact (Below.refl _ _).alloc (Nat.le_refl _) _
      have Hal := Lib.hid hal
      have Hq1 := Lib.hid hq
      have HbW := Lib.hid hbW
      clear hok hks hcs hq hbW hal
      go_upto_region 6 with fail
      rw [hW1.out]
      obtain ⟨Q, hQ⟩ := hide wr.heap.size
      rw [hQ.out] at Hq1 ⊢
      clear d0 d1 d2 d3 d4 d5 d6
      have hd1 : Below W.heap.size W W1.drew := HbW.out.drew
      have Hd1 := Lib.hid hd1
      clear hd1
      go_cut [68] (fun r wx => r = .bool (!(okSess t.time t.sess k ⟨client, last, kind, val, ver, keys, seen⟩)) ∧ Hid (Below W.heap.size W wx))
      case first =>
        have below_eq : ∀ (n low high : Int) (w' : World), Calls Try.prog 96 #[.int .i64 n, .int .i64 low, .int .i64 high] w' fun e w'' => e = .returned (.bool (inB n low high)) ∧ Below w'.heap.size w' w'' := fun n low high w' => (in_any n low high w').mono fun e w'' h => ⟨h.1, by rw [← h.2]; exact Below.refl _ _⟩
        have J1 := Lib.hid (fun w' => below_eq client 1 1099511627775 w')
        have J2 := Lib.hid (fun w' => below_eq last 0 1099511627775 w')
        have J3 := Lib.hid (fun w' => below_eq seen 0 t.time w')
        clear below_eq
        obtain ⟨a1, ha1⟩ := hide (inB client 1 1099511627775)
        obtain ⟨a2, ha2⟩ := hide (inB last 0 1099511627775)
        obtain ⟨a3, ha3⟩ := hide (inB seen 0 t.time)
        rw [ha1.out] at J1 Hok
        rw [ha2.out] at J2 Hok
        rw [ha3.out] at J3 Hok
        have KR : ∀ (dd : Nat) (os : Array Obj), Calls Try.prog 164 #[vRes kind val ver (.slice ko keys.length kcap)] (Sort.grow (redrawn W1 dd) os) fun e w'' => e = .returned (.bool (resB kind val ver keys)) ∧ Below (Sort.grow (redrawn W1 dd) os).heap.size (Sort.grow (redrawn W1 dd) os) w'' := fun dd os => wire_isResult kind val ver _ keys _ ((Hks.out.mono Hal.out).mono (below_regrown W1 dd os))
        obtain ⟨a5, ha5⟩ := hide (resB kind val ver keys)
        rw [ha5.out] at KR Hok
        have KR := Lib.hid KR
        have HbG : Hid (∀ (dd : Nat) (os : Array Obj), Below W.heap.size W (Sort.grow (redrawn W1 dd) os)) := fun dd os => HbW.out.trans ((below_regrown W1 dd os).mono HbW.out.size)
        have x0 := Hx.out _ HbW.out
        have b1 := fun (dd : Nat) (os : Array Obj) => cell_regrown (cell_n x0 1 (v := .slice (some ⟨b, off, none⟩) t.sess.length scap) rfl) dd os
        have b2 := fun (dd : Nat) (os : Array Obj) => cell_regrown (cell_n x0 2 (v := .int .i64 t.time) rfl) dd os
        clear x0
        have q0 := fun (dd : Nat) (os : Array Obj) => cell_regrown (cell_n Hq1.out 0 (v := .int .i64 client) rfl) dd os
        have q1 := fun (dd : Nat) (os : Array Obj) => cell_regrown (cell_n Hq1.out 1 (v := .int .i64 last) rfl) dd os
        have q2 := fun (dd : Nat) (os : Array Obj) => cell_regrown (cell_n Hq1.out 2 (v := .int .i64 kind) rfl) dd os
        have q3 := fun (dd : Nat) (os : Array Obj) => cell_regrown (cell_n Hq1.out 3 (v := str val) rfl) dd os
        have q4 := fun (dd : Nat) (os : Array Obj) => cell_regrown (cell_n Hq1.out 4 (v := .int .i64 ver) rfl) dd os
        have q5 := fun (dd : Nat) (os : Array Obj) => cell_regrown (cell_n Hq1.out 5 (v := .slice ko keys.length kcap) rfl) dd os
        have q6 := fun (dd : Nat) (os : Array Obj) => cell_regrown (cell_n Hq1.out 6 (v := .int .i64 seen) rfl) dd os
        cases a1 with
        | false =>
          refine wp_region_quiet_below (by kernel_rfl) (by kernel_rfl) ?_
          repeat (go_big_quiet_step (first | (go_at_call 96; first | with_reducible refine Calls.regrown_of (J1.out _) | with_reducible refine Calls.regrown_of (J2.out _) | with_reducible refine Calls.regrown_of (J3.out _)) | (go_at_call 164; with_reducible refine Calls.regrown_of (KR.out _ _))))
          refine wpQuiet_nil ?_
          intro _ hw'
          obtain ⟨⟨dq, osq⟩, hw''⟩ := hw'
          subst hw''
          go_wp2
          go_meet
          exact ⟨by rw [Hok.out]; first | rfl | simp, HbG.out _ _⟩
        | true =>
        cases k with
        | zero =>
          rw [show (((0 : Nat) : Int)) = 0 from rfl]
          have hkp : prevC t.sess 0 client = true := rfl
          have Hkp := Lib.hid hkp
          clear hkp
          cases a2 with
          | false =>
            refine wp_region_quiet_below (by kernel_rfl) (by kernel_rfl) ?_
            repeat (go_big_quiet_step (first | (go_at_call 96; first | with_reducible refine Calls.regrown_of (J1.out _) | with_reducible refine Calls.regrown_of (J2.out _) | with_reducible refine Calls.regrown_of (J3.out _)) | (go_at_call 164; with_reducible refine Calls.regrown_of (KR.out _ _))))
            refine wpQuiet_nil ?_
            intro _ hw'
            obtain ⟨⟨dq, osq⟩, hw''⟩ := hw'
            subst hw''
            go_wp2
            go_meet
            exact ⟨by rw [Hok.out, Hkp.out]; first | rfl | simp, HbG.out _ _⟩
          | true =>
          cases a3 with
          | false =>
            refine wp_region_quiet_below (by kernel_rfl) (by kernel_rfl) ?_
            repeat (go_big_quiet_step (first | (go_at_call 96; first | with_reducible refine Calls.regrown_of (J1.out _) | with_reducible refine Calls.regrown_of (J2.out _) | with_reducible refine Calls.regrown_of (J3.out _)) | (go_at_call 164; with_reducible refine Calls.regrown_of (KR.out _ _))))
            refine wpQuiet_nil ?_
            intro _ hw'
            obtain ⟨⟨dq, osq⟩, hw''⟩ := hw'
            subst hw''
            go_wp2
            go_meet
            exact ⟨by rw [Hok.out, Hkp.out]; first | rfl | simp, HbG.out _ _⟩
          | true =>
          refine wp_region_quiet_below (by kernel_rfl) (by kernel_rfl) ?_
          repeat (go_big_quiet_step (first | (go_at_call 96; first | with_reducible refine Calls.regrown_of (J1.out _) | with_reducible refine Calls.regrown_of (J2.out _) | with_reducible refine Calls.regrown_of (J3.out _)) | (go_at_call 164; with_reducible refine Calls.regrown_of (KR.out _ _))))
          refine wpQuiet_nil ?_
          intro _ hw'
          obtain ⟨⟨dq, osq⟩, hw''⟩ := hw'
          subst hw''
          go_wp2
          go_meet
          exact ⟨by rw [Hok.out, Hkp.out]; first | rfl | simp, HbG.out _ _⟩
        | succ m =>
        obtain ⟨hml, cm⟩ := Hmk.out m rfl
        have hkp : prevC t.sess (m + 1) client = decide (t.sess[m].client < client) := by rw [prevC, List.getElem?_eq_getElem hml]
        obtain ⟨pc, hpc⟩ := hide t.sess[m].client
        rw [hpc.out] at cm hkp
        have cm0 : W1.cell? ⟨b, off + m * 7, none⟩ = some (.int .i64 pc) := by rw [← hW1.out, World.cell?_alloc_lt _ _ _ (World.block_lt_of_cell? _ _ cm)]; exact cm
        have cm1 := fun (dd : Nat) (os : Array Obj) => cell_regrown cm0 dd os
        have hmi : (m : Int) < (t.sess.length : Int) := by omega
        have Hkp := Lib.hid hkp
        clear cm hkp cm0
        by_cases hpcc : client ≤ pc
        · have t5 : decide (client ≤ pc) = true := decide_eq_true hpcc
          have Hf : Hid (decide (pc < client) = false) := decide_eq_false (by omega)
          clear hpcc
          refine wp_region_quiet_below (by kernel_rfl) (by kernel_rfl) ?_
          repeat (go_big_quiet_step (first | (go_at_call 96; first | with_reducible refine Calls.regrown_of (J1.out _) | with_reducible refine Calls.regrown_of (J2.out _) | with_reducible refine Calls.regrown_of (J3.out _)) | (go_at_call 164; with_reducible refine Calls.regrown_of (KR.out _ _))))
          refine wpQuiet_nil ?_
          intro _ hw'
          obtain ⟨⟨dq, osq⟩, hw''⟩ := hw'
          subst hw''
          go_wp2
          go_meet
          exact ⟨by rw [Hok.out, Hkp.out, Hf.out]; first | rfl | simp, HbG.out _ _⟩
        have t5 : decide (client ≤ pc) = false := decide_eq_false hpcc
        have Hf : Hid (decide (pc < client) = true) := decide_eq_true (by omega)
        clear hpcc
        cases a2 with
        | false =>
          refine wp_region_quiet_below (by kernel_rfl) (by kernel_rfl) ?_
          repeat (go_big_quiet_step (first | (go_at_call 96; first | with_reducible refine Calls.regrown_of (J1.out _) | with_reducible refine Calls.regrown_of (J2.out _) | with_reducible refine Calls.regrown_of (J3.out _)) | (go_at_call 164; with_reducible refine Calls.regrown_of (KR.out _ _))))
          refine wpQuiet_nil ?_
          intro _ hw'
          obtain ⟨⟨dq, osq⟩, hw''⟩ := hw'
          subst hw''
          go_wp2
          go_meet
          exact ⟨by rw [Hok.out, Hkp.out, Hf.out]; first | rfl | simp, HbG.out _ _⟩
        | true =>
        cases a3 with
        | false =>
          refine wp_region_quiet_below (by kernel_rfl) (by kernel_rfl) ?_
          repeat (go_big_quiet_step (first | (go_at_call 96; first | with_reducible refine Calls.regrown_of (J1.out _) | with_reducible refine Calls.regrown_of (J2.out _) | with_reducible refine Calls.regrown_of (J3.out _)) | (go_at_call 164; with_reducible refine Calls.regrown_of (KR.out _ _))))
          refine wpQuiet_nil ?_
          intro _ hw'
          obtain ⟨⟨dq, osq⟩, hw''⟩ := hw'
          subst hw''
          go_wp2
          go_meet
          exact ⟨by rw [Hok.out, Hkp.out, Hf.out]; first | rfl | simp, HbG.out _ _⟩
        | true =>
        refine wp_region_quiet_below (by kernel_rfl) (by kernel_rfl) ?_
        repeat (go_big_quiet_step (first | (go_at_call 96; first | with_reducible refine Calls.regrown_of (J1.out _) | with_reducible refine Calls.regrown_of (J2.out _) | with_reducible refine Calls.regrown_of (J3.out _)) | (go_at_call 164; with_reducible refine Calls.regrown_of (KR.out _ _))))
        refine wpQuiet_nil ?_
        intro _ hw'
        obtain ⟨⟨dq, osq⟩, hw''⟩ := hw'
        subst hw''
        go_wp2
        go_meet
        exact ⟨by rw [Hok.out, Hkp.out, Hf.out]; first | rfl | simp, HbG.out _ _⟩
      case rest =>
        obtain ⟨rfl, hbx⟩ := hcut
        cases hokk : okSess t.time t.sess k ⟨client, last, kind, val, ver, keys, seen⟩ with
        | true =>
          have Hq := Lib.hid (Hyes.out hokk)
          clear hokk
          go_wp2_with fail
          go_roundw
          case rel => exact ⟨k + 1, by go_num, hlt, hbx, Hq.out⟩
          case measure => simp [intOf]; omega
        | false =>
          have Hq := Lib.hid (Hno.out hokk _ hbx.out)
          clear hokk
          go_wp2_with fail
          exact Hq.out
    · have hkn : k = t.sess.length := by omega
      have Hq := Lib.hid (Hp.out true _ hb.out (by rw [Hd2.out]; exact sessB_all (fun i p hi hip => hx.out i p (by omega) hip)))
      clear hkn
      go_wp2_with fail
      exact Hq.out
end Go.Proofs.Ytbonmeogmjfkeaa
