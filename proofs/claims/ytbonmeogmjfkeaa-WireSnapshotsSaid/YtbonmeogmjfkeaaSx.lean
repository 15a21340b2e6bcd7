/-
  Results and tables that hold the same data: the document's comparison says so. Snapshots that hold the same data: the document's comparison says so.
-/
import Derived.Test.YtbonmeogmjfkeaaTr
import Derived.Test.YtbonmeogmjfkeaaTt
import Derived.Lib.QuietBelow
import Derived.Test.YtbonmeogmjfkeaaSs
import Derived.Test.YtbonmeogmjfkeaaCj
import Derived.Test.YtbonmeogmjfkeaaKp
namespace Go.Proofs.Ytbonmeogmjfkeaa
open Go.RowKit Wm Mm
set_option linter.unusedVariables false

set_option maxHeartbeats 2000000 in
set_option maxRecDepth 100000 in
theorem ref_sameResult (kind : Int) (val : List UInt8) (ver : Int) (kv kv2 : Value) (keys : List (List UInt8)) (w : World) (hv : Strs w kv keys) (hv2 : Strs w kv2 keys) :
    Calls Try.prog 133 #[vRes kind val ver kv, vRes kind val ver kv2] w fun e w' => e = .returned (.bool true) ∧ Below w.heap.size w w' := by
  obtain ⟨ao, cap, rfl, hm⟩ := hv.slice
  obtain ⟨ao2, cap2, rfl, _⟩ := hv2.slice
  obtain ⟨W1, hW1⟩ := hide (w.alloc (.cells #[.int .i64 kind, str val, .int .i64 ver, .slice ao keys.length cap] 190))
  obtain ⟨W, hW⟩ := hide (W1.alloc (.cells #[.int .i64 kind, str val, .int .i64 ver, .slice ao2 keys.length cap2] 190))
  obtain ⟨B, hB⟩ := hide w.heap.size
  have hc : W.heap[B]? = some (.cells #[.int .i64 kind, str val, .int .i64 ver, .slice ao keys.length cap] 190 (0, 0)) := by
    rw [← hW.out]; exact (hp_past _ _ (by rw [← hW1.out, ← hB.out]; simp)).trans (by rw [← hW1.out]; exact hp_at _ _ hB.out.symm)
  have hd : W.heap[B + 1]? = some (.cells #[.int .i64 kind, str val, .int .i64 ver, .slice ao2 keys.length cap2] 190 (0, 0)) := by
    rw [← hW.out]; exact hp_at _ _ (by rw [← hW1.out, ← hB.out]; simp)
  have hb0 : Below w.heap.size w W := by rw [← hW.out, ← hW1.out]; exact ((Below.refl _ _).alloc (Nat.le_refl _) _).alloc (by simp) _
  have HV := Lib.hid (hv.mono hb0)
  have HV2 := Lib.hid (hv2.mono hb0)
  have Hx : Hid (∀ w', Below W.heap.size W w' → w'.heap[B]? = some (.cells #[.int .i64 kind, str val, .int .i64 ver, .slice ao keys.length cap] 190 (0, 0)) ∧ w'.heap[B + 1]? = some (.cells #[.int .i64 kind, str val, .int .i64 ver, .slice ao2 keys.length cap2] 190 (0, 0))) :=
    fun w' h => ⟨(h.block _ (lt_of_block hc)).trans hc, (h.block _ (lt_of_block hd)).trans hd⟩
  have Hb0 := Lib.hid hb0
  have hBs : W1.heap.size = B + 1 := by rw [← hW1.out, ← hB.out]; simp
  have HBs := Lib.hid hBs
  have x0 := Hx.out _ (Below.refl _ _)
  have c0 := cell_n x0.1 0 (v := .int .i64 kind) rfl
  have c1 := cell_n x0.1 1 (v := str val) rfl
  have c2 := cell_n x0.1 2 (v := .int .i64 ver) rfl
  have c3 := cell_n x0.1 3 (v := .slice ao keys.length cap) rfl
  have d0 := cell_n x0.2 0 (v := .int .i64 kind) rfl
  have d1 := cell_n x0.2 1 (v := str val) rfl
  have d2 := cell_n x0.2 2 (v := .int .i64 ver) rfl
  have d3 := cell_n x0.2 3 (v := .slice ao2 keys.length cap2) rfl
  clear hc hd hb0 hv hv2 x0 hBs
  go_enter Try.func133, Try.ntmps133
  go_upto_region 1 with fail
  rw [hW1.out, hW.out, hB.out]
  go_wp2_with fail
  go_loopw [5] (fun i wr => ∃ k : Nat, i = .int .i64 k ∧ k ≤ keys.length ∧ Hid (Below W.heap.size W wr)) (fun i _ => keys.length - (intOf i).toNat)
  case atStart => exact ⟨0, rfl, Nat.zero_le _, Below.refl _ _⟩
  case round =>
    clear c0 c1 c2 c3 d0 d1 d2 d3
    obtain ⟨k, rfl, hk, hb⟩ := hrel
    have x0 := Hx.out _ hb.out
    have c3 := cell_n x0.1 3 (v := .slice ao keys.length cap) rfl
    have d3 := cell_n x0.2 3 (v := .slice ao2 keys.length cap2) rfl
    clear x0
    by_cases hlt : k < keys.length
    · obtain ⟨b, off, rfl, ck⟩ := (HV.out.mono hb.out).at hlt
      obtain ⟨b2, off2, rfl, dk⟩ := (HV2.out.mono hb.out).at hlt
      obtain ⟨x, hX⟩ := hide keys[k]
      rw [hX.out] at ck dk
      go_wp2_with (go_quiet (fail))
      go_roundw
      case rel => exact ⟨k + 1, by go_num, hlt, below_drewN hb.out _⟩
      case measure => simp [intOf]; omega
    · go_wp2_with fail
      go_ret
      exact ⟨rfl, Hb0.out.trans (hb.out.mono Hb0.out.size)⟩

set_option maxHeartbeats 4000000 in
set_option maxRecDepth 100000 in
theorem ref_sameTable (vp vs vp2 vs2 : Value) (t : Tab) (w : World) (ht : Table2 w vp vs t) (ht2 : Table2 w vp2 vs2 t) :
    Calls Try.prog 69 #[.agg #[vp, vs, .int .i64 t.time], .agg #[vp2, vs2, .int .i64 t.time]] w fun e w' => e = .returned (.bool true) ∧ Below w.heap.size w w' := by
  obtain ⟨po, pcap, rfl, hpm⟩ := ht.p.slice
  obtain ⟨so, scap, rfl, hm⟩ := ht.s.slice
  obtain ⟨po2, pcap2, rfl, _⟩ := ht2.p.slice
  obtain ⟨so2, scap2, rfl, _⟩ := ht2.s.slice
  obtain ⟨W1, hW1⟩ := hide (w.alloc (.cells #[.slice po t.pairs.length pcap, .slice so t.sess.length scap, .int .i64 t.time] 109))
  obtain ⟨W, hW⟩ := hide (W1.alloc (.cells #[.slice po2 t.pairs.length pcap2, .slice so2 t.sess.length scap2, .int .i64 t.time] 109))
  obtain ⟨B, hB⟩ := hide w.heap.size
  have hc : W.heap[B]? = some (.cells #[.slice po t.pairs.length pcap, .slice so t.sess.length scap, .int .i64 t.time] 109 (0, 0)) := by
    rw [← hW.out]; exact (hp_past _ _ (by rw [← hW1.out, ← hB.out]; simp)).trans (by rw [← hW1.out]; exact hp_at _ _ hB.out.symm)
  have hd : W.heap[B + 1]? = some (.cells #[.slice po2 t.pairs.length pcap2, .slice so2 t.sess.length scap2, .int .i64 t.time] 109 (0, 0)) := by
    rw [← hW.out]; exact hp_at _ _ (by rw [← hW1.out, ← hB.out]; simp)
  have hb0 : Below w.heap.size w W := by rw [← hW.out, ← hW1.out]; exact ((Below.refl _ _).alloc (Nat.le_refl _) _).alloc (by simp) _
  have HT := Lib.hid (ht.mono hb0)
  have HT2 := Lib.hid (ht2.mono hb0)
  have Hx : Hid (∀ w', Below W.heap.size W w' → w'.heap[B]? = some (.cells #[.slice po t.pairs.length pcap, .slice so t.sess.length scap, .int .i64 t.time] 109 (0, 0)) ∧ w'.heap[B + 1]? = some (.cells #[.slice po2 t.pairs.length pcap2, .slice so2 t.sess.length scap2, .int .i64 t.time] 109 (0, 0))) :=
    fun w' h => ⟨(h.block _ (lt_of_block hc)).trans hc, (h.block _ (lt_of_block hd)).trans hd⟩
  have Hb0 := Lib.hid hb0
  obtain ⟨tm, htm⟩ := hide t.time
  rw [htm.out] at Hx hW1 hW
  rw [htm.out]
  have x0 := Hx.out _ (Below.refl _ _)
  have c0 := cell_n x0.1 0 (v := .slice po t.pairs.length pcap) rfl
  have c1 := cell_n x0.1 1 (v := .slice so t.sess.length scap) rfl
  have c2 := cell_n x0.1 2 (v := .int .i64 tm) rfl
  have d0 := cell_n x0.2 0 (v := .slice po2 t.pairs.length pcap2) rfl
  have d1 := cell_n x0.2 1 (v := .slice so2 t.sess.length scap2) rfl
  have d2 := cell_n x0.2 2 (v := .int .i64 tm) rfl
  clear hc hd hb0 ht ht2 x0
  go_enter Try.func69, Try.ntmps69
  go_upto_region 1 with fail
  rw [hW1.out, hW.out, hB.out]
  go_wp2_with fail
  go_loopw [5] (fun i wr => ∃ k : Nat, i = .int .i64 k ∧ k ≤ t.pairs.length ∧ Hid (Below W.heap.size W wr)) (fun i _ => t.pairs.length - (intOf i).toNat)
  case atStart => exact ⟨0, rfl, Nat.zero_le _, Below.refl _ _⟩
  case round =>
    clear c0 c1 c2 d0 d1 d2
    obtain ⟨k, rfl, hk, hb⟩ := hrel
    have x0 := Hx.out _ hb.out
    have c0 := cell_n x0.1 0 (v := .slice po t.pairs.length pcap) rfl
    have d0 := cell_n x0.2 0 (v := .slice po2 t.pairs.length pcap2) rfl
    clear x0
    by_cases hlt : k < t.pairs.length
    · obtain ⟨b, off, rfl, k0, k1, k2⟩ := (HT.out.mono hb.out).p.at hlt
      obtain ⟨b2, off2, rfl, m0, m1, m2⟩ := (HT2.out.mono hb.out).p.at hlt
      obtain ⟨x, hX⟩ := hide t.pairs[k]
      rw [hX.out] at k0 k1 k2 m0 m1 m2
      go_wp2_with (go_quiet (fail))
      go_roundw
      case rel => exact ⟨k + 1, by go_num, hlt, below_drewN hb.out _⟩
      case measure => simp [intOf]; omega
    · have x0 := Hx.out _ hb.out
      have c1 := cell_n x0.1 1 (v := .slice so t.sess.length scap) rfl
      clear x0
      go_wp2_with fail
      go_loopw [6, 7] (fun i _ wr => ∃ k : Nat, i = .int .i64 k ∧ k ≤ t.sess.length ∧ Hid (Below W.heap.size W wr)) (fun i _ _ => t.sess.length - (intOf i).toNat)
      case atStart => exact ⟨0, rfl, Nat.zero_le _, hb⟩
      case round =>
        clear c0 c1 d0
        obtain ⟨k, rfl, hk, hb2⟩ := hrel
        have x0 := Hx.out _ hb2.out
        have c1 := cell_n x0.1 1 (v := .slice so t.sess.length scap) rfl
        have d1 := cell_n x0.2 1 (v := .slice so2 t.sess.length scap2) rfl
        clear x0
        by_cases hlt : k < t.sess.length
        · obtain ⟨b, off, kv, rfl, hks, hcs⟩ := (HT.out.mono hb2.out).s.at hlt
          obtain ⟨b2, off2, kv2, rfl, hks2, hcs2⟩ := (HT2.out.mono hb2.out).s.at hlt
          obtain ⟨x, hX⟩ := hide t.sess[k]
          rw [hX.out] at hks hcs hks2 hcs2
          obtain ⟨client, last, kind, val, ver, keys, seen⟩ := x
          obtain ⟨ko, kc, rfl, _⟩ := hks.slice
          obtain ⟨ko2, kc2, rfl, _⟩ := hks2.slice
          have k0 := hcs 0 (.int .i64 client) rfl
          have k1 := hcs 1 (.int .i64 last) rfl
          have k2 := hcs 2 (.int .i64 kind) rfl
          have k3 := hcs 3 (str val) rfl
          have k4 := hcs 4 (.int .i64 ver) rfl
          have k5 := hcs 5 (.slice ko keys.length kc) rfl
          have k6 := hcs 6 (.int .i64 seen) rfl
          have m0 := hcs2 0 (.int .i64 client) rfl
          have m1 := hcs2 1 (.int .i64 last) rfl
          have m2 := hcs2 2 (.int .i64 kind) rfl
          have m3 := hcs2 3 (str val) rfl
          have m4 := hcs2 4 (.int .i64 ver) rfl
          have m5 := hcs2 5 (.slice ko2 keys.length kc2) rfl
          have m6 := hcs2 6 (.int .i64 seen) rfl
          rw [Nat.add_zero] at k0 m0
          have K := Lib.hid (fun w' (h : Below wr.heap.size wr w') => ref_sameResult kind val ver (.slice ko keys.length kc) (.slice ko2 keys.length kc2) keys w' (hks.mono h) (hks2.mono h))
          clear hcs hcs2 hks hks2
          have C1 := fun (dd : Nat) (os : Array Obj) => cell_regrown c1 dd os
          have D1 := fun (dd : Nat) (os : Array Obj) => cell_regrown d1 dd os
          have K2 := fun (dd : Nat) (os : Array Obj) => cell_regrown k2 dd os
          have M2 := fun (dd : Nat) (os : Array Obj) => cell_regrown m2 dd os
          have K3 := fun (dd : Nat) (os : Array Obj) => cell_regrown k3 dd os
          have M3 := fun (dd : Nat) (os : Array Obj) => cell_regrown m3 dd os
          have K4 := fun (dd : Nat) (os : Array Obj) => cell_regrown k4 dd os
          have M4 := fun (dd : Nat) (os : Array Obj) => cell_regrown m4 dd os
          have K5 := fun (dd : Nat) (os : Array Obj) => cell_regrown k5 dd os
          have M5 := fun (dd : Nat) (os : Array Obj) => cell_regrown m5 dd os
          have HbW : Hid (∀ d os, Below wr.heap.size wr (Sort.grow (redrawn wr d) os)) := fun d os => below_regrown wr d os
          have Hk : Hid (∀ w', Below wr.heap.size wr w' → (w'.cell? ⟨b, off + k * 7, none⟩ = some (.int .i64 client) ∧ w'.cell? ⟨b, off + k * 7 + 1, none⟩ = some (.int .i64 last) ∧ w'.cell? ⟨b, off + k * 7 + 6, none⟩ = some (.int .i64 seen)) ∧ (w'.cell? ⟨b2, off2 + k * 7, none⟩ = some (.int .i64 client) ∧ w'.cell? ⟨b2, off2 + k * 7 + 1, none⟩ = some (.int .i64 last) ∧ w'.cell? ⟨b2, off2 + k * 7 + 6, none⟩ = some (.int .i64 seen))) := by
            show ∀ w', _ → _
            intro w' h
            exact ⟨⟨(h.cell (lt_of_cell k0)).trans k0, (h.cell (lt_of_cell k1)).trans k1, (h.cell (lt_of_cell k6)).trans k6⟩, ⟨(h.cell (lt_of_cell m0)).trans m0, (h.cell (lt_of_cell m1)).trans m1, (h.cell (lt_of_cell m6)).trans m6⟩⟩
          clear k0 k1 k2 k3 k4 k5 k6 m0 m1 m2 m3 m4 m5 m6
          go_upto_region 11 with fail
          clear c1 d1
          go_cut [7] (fun r wx => r = .bool true ∧ Hid (Below wr.heap.size wr wx))
          case first =>
            refine wp_region_quiet_below (by kernel_rfl) (by kernel_rfl) ?_
            repeat (go_big_quiet_step ((go_at_call 133; with_reducible refine Calls.regrown_of (K.out _ (HbW.out _ _)))))
            refine wpQuiet_nil ?_
            intro _ hw'
            obtain ⟨⟨dq, osq⟩, hw''⟩ := hw'
            subst hw''
            go_wp2
            go_meet
            exact ⟨rfl, HbW.out dq osq⟩
          case rest =>
          obtain ⟨rfl, hb5'⟩ := hcut
          have hb5 := hb5'.out
          clear C1 D1 K2 M2 K3 M3 K4 M4 K5 M5
          obtain ⟨⟨k0, k1, k6⟩, ⟨m0, m1, m6⟩⟩ := Hk.out _ hb5
          have hb6 : Below W.heap.size W wc := hb2.out.trans (hb5.mono hb2.out.size)
          have x0 := Hx.out _ hb6
          have c1 := cell_n x0.1 1 (v := .slice (some ⟨b, off, none⟩) t.sess.length scap) rfl
          have d1 := cell_n x0.2 1 (v := .slice (some ⟨b2, off2, none⟩) t.sess.length scap2) rfl
          have Hb6 := Lib.hid hb6
          clear x0 hb5 hb5' hb6
          go_wp2_with (go_quiet (fail))
          go_roundw
          case rel => exact ⟨k + 1, by go_num, hlt, below_drewN Hb6.out _⟩
          case measure => simp [intOf]; omega
        · go_wp2_with fail
          go_ret
          exact ⟨rfl, Hb0.out.trans (hb2.out.mono Hb0.out.size)⟩
end Go.Proofs.Ytbonmeogmjfkeaa

namespace Go.Proofs.Ytbonmeogmjfkeaa
open Go.RowKit Wm Mm
set_option linter.unusedVariables false

theorem sameConf_self' (c : Conf) : sameConf c c = true := by simp [sameConf]

set_option maxHeartbeats 2000000 in
set_option maxRecDepth 100000 in
theorem ref_sameSnapshot (index term : Int) (x y z x2 y2 z2 : Value) (c : Conf) (data : List UInt8) (w : World) (h1 : Config3 w x y z c) (h2 : Config3 w x2 y2 z2 c) :
    Calls Try.prog 65 #[vSnap index term x y z data, vSnap index term x2 y2 z2 data] w fun e w' => e = .returned (.bool true) ∧ Below w.heap.size w w' := by
  obtain ⟨ao1, cp1, rfl, _⟩ := len_of_Ints h1.v
  obtain ⟨ao2, cp2, rfl, _⟩ := len_of_Ints h1.n
  obtain ⟨ao3, cp3, rfl, _⟩ := len_of_Ints h1.l
  obtain ⟨bo1, bp1, rfl, _⟩ := len_of_Ints h2.v
  obtain ⟨bo2, bp2, rfl, _⟩ := len_of_Ints h2.n
  obtain ⟨bo3, bp3, rfl, _⟩ := len_of_Ints h2.l
  obtain ⟨W1, hW1⟩ := hide (w.alloc (.cells #[.int .i64 index, .int .i64 term, .slice ao1 c.v.length cp1, .slice ao2 c.n.length cp2, .slice ao3 c.l.length cp3, str data] 105))
  obtain ⟨W, hW⟩ := hide (W1.alloc (.cells #[.int .i64 index, .int .i64 term, .slice bo1 c.v.length bp1, .slice bo2 c.n.length bp2, .slice bo3 c.l.length bp3, str data] 105))
  obtain ⟨B, hB⟩ := hide w.heap.size
  have hc : W.heap[B]? = some (.cells #[.int .i64 index, .int .i64 term, .slice ao1 c.v.length cp1, .slice ao2 c.n.length cp2, .slice ao3 c.l.length cp3, str data] 105 (0, 0)) := by
    rw [← hW.out]; exact (hp_past _ _ (by rw [← hW1.out, ← hB.out]; simp)).trans (by rw [← hW1.out]; exact hp_at _ _ hB.out.symm)
  have hd : W.heap[B + 1]? = some (.cells #[.int .i64 index, .int .i64 term, .slice bo1 c.v.length bp1, .slice bo2 c.n.length bp2, .slice bo3 c.l.length bp3, str data] 105 (0, 0)) := by
    rw [← hW.out]; exact hp_at _ _ (by rw [← hW1.out, ← hB.out]; simp)
  have hb0 : Below w.heap.size w W := by rw [← hW.out, ← hW1.out]; exact ((Below.refl _ _).alloc (Nat.le_refl _) _).alloc (by simp) _
  have K := Lib.hid (ref_sameConfig _ _ _ _ _ _ c c W (h1.mono hb0) (h2.mono hb0))
  rw [sameConf_self'] at K
  have Hx : Hid (∀ w', Below W.heap.size W w' → w'.heap[B]? = some (.cells #[.int .i64 index, .int .i64 term, .slice ao1 c.v.length cp1, .slice ao2 c.n.length cp2, .slice ao3 c.l.length cp3, str data] 105 (0, 0)) ∧ w'.heap[B + 1]? = some (.cells #[.int .i64 index, .int .i64 term, .slice bo1 c.v.length bp1, .slice bo2 c.n.length bp2, .slice bo3 c.l.length bp3, str data] 105 (0, 0))) :=
    fun w' h => ⟨(h.block _ (lt_of_block hc)).trans hc, (h.block _ (lt_of_block hd)).trans hd⟩
  have Hb0 := Lib.hid hb0
  have c2 := cell_n hc 2 (v := .slice ao1 c.v.length cp1) rfl
  have c3 := cell_n hc 3 (v := .slice ao2 c.n.length cp2) rfl
  have c4 := cell_n hc 4 (v := .slice ao3 c.l.length cp3) rfl
  have d2 := cell_n hd 2 (v := .slice bo1 c.v.length bp1) rfl
  have d3 := cell_n hd 3 (v := .slice bo2 c.n.length bp2) rfl
  have d4 := cell_n hd 4 (v := .slice bo3 c.l.length bp3) rfl
  clear hc hd hb0 h1 h2
  go_enter Try.func65, Try.ntmps65
  go_upto_region 1 with fail
  rw [hW1.out, hW.out, hB.out]
  go_wp2_with fail
  refine K.out.mono ?_
  rintro e w2 ⟨rfl, hb⟩
  have x0 := Hx.out _ hb
  clear c2 c3 c4 d2 d3 d4
  have c0 := cell_n x0.1 0 (v := .int .i64 index) rfl
  have c1 := cell_n x0.1 1 (v := .int .i64 term) rfl
  have c5 := cell_n x0.1 5 (v := str data) rfl
  have d0 := cell_n x0.2 0 (v := .int .i64 index) rfl
  have d1 := cell_n x0.2 1 (v := .int .i64 term) rfl
  have d5 := cell_n x0.2 5 (v := str data) rfl
  have Hb := Lib.hid hb
  clear x0 hb
  go_wp2_with fail
  go_ret
  exact ⟨rfl, Hb0.out.trans (Hb.out.mono Hb0.out.size)⟩
end Go.Proofs.Ytbonmeogmjfkeaa
