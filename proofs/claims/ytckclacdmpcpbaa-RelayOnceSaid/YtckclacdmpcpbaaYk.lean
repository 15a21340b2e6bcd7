/-
  RelayOnce: for every script of turns three hosts that talk get what was sent, once, in order: the law answers true and leaves its argument alone.
-/
import Derived.Test.YtckclacdmpcpbaaYj
namespace Go.Proofs.Ytckclacdmpcpbaa
open Go.RowKit Wm Mm Rl
set_option linter.unusedVariables false
set_option linter.unusedSimpArgs false

structure TurnP where
  kd : Int
  hst : Int
  num : Int
  body : List UInt8
abbrev rowTu (x : TurnP) : List Value := [.int .i64 x.kd, .int .i64 x.hst, .int .i64 x.num, str x.body]
abbrev Turns (F : Nat → Prop) (w : World) (v : Value) (l : List TurnP) : Prop := Sl 4 (Plain rowTu) F w v l
/-- how things stand -/
structure St (w0 w : World) (T n : Nat) (t : TalkP) (z : Nat → Nat) : Prop where
  x : TalkX 3 z w T t
  ok : Ok n t
  low : ∀ g, z g ≤ 7 → w0.heap.size ≤ g
  bel : Below w0.heap.size w0 w
theorem St.step {w0 w w' : World} {T n n' : Nat} {t t' : TalkP} {z z' : Nat → Nat} (h : St w0 w T n t z) (hx : TalkX 3 z' w' T t') (hc : TalkC z z' w w') (ho : Ok n' t') : St w0 w' T n' t' z' :=
  ⟨hx, ho, fun g hg => (hc.own g hg).elim (h.low g) (fun e => Nat.le_trans h.bel.size e), h.bel.trans (hc.chg.toBelow (fun k hk => h.low k hk) h.bel.size)⟩
theorem St.new {w0 w w' : World} {T n : Nat} {t : TalkP} {z : Nat → Nat} (h : St w0 w T n t z) (hb : Below w.heap.size w w') : St w0 w' T n t z :=
  ⟨h.x.new hb, h.ok, h.low, h.bel.trans (hb.mono h.bel.size)⟩
theorem St.drewN {w0 w : World} {T n : Nat} {t : TalkP} {z : Nat → Nat} (h : St w0 w T n t z) (m : Nat) : St w0 (w.drewN m) T n t z :=
  ⟨h.x.keep (Agree.drewN _ w m), h.ok, h.low, h.bel.trans ⟨rfl, rfl, rfl, Nat.le_refl _, fun _ _ => rfl⟩⟩
theorem St.mono {w0 w : World} {T n m : Nat} {t : TalkP} {z : Nat → Nat} (h : St w0 w T n t z) (hm : n ≤ m) : St w0 w T m t z := ⟨h.x, h.ok.mono hm, h.low, h.bel⟩
theorem packets_none (r : RelP) (F : Nat → Prop) (w : World) (B : Nat) (h : RelX F w B r) (hw : ∀ k, k < 10 → (r.wait k).length ≤ 16) (hn : packetsP r = []) :
    Calls Try.prog 17 #[.pointer (some ⟨B, 0, none⟩)] w fun e w' => ∃ a k, e = .returned (.slice a 0 k) ∧ Below w.heap.size w w' := by
  have h1 := packets_law r F w B h hw
  rw [hn] at h1
  refine h1.mono ?_
  rintro e w' ⟨v', rfl, ho, hb⟩
  obtain ⟨a, k, rfl⟩ := owns_slice ho
  exact ⟨a, k, rfl, hb⟩
set_option maxHeartbeats 8000000 in
set_option maxRecDepth 100000 in
theorem law_relayOnce (v : Value) (l : List TurnP) (F : Nat → Prop) (w : World) (hv : Turns F w v l) (hr : ∀ x ∈ l, i64r x.kd ∧ i64r x.hst ∧ i64r x.num) :
    Calls Try.prog 4 #[v] w fun e w' => e = .returned (.bool true) ∧ Below w.heap.size w w' := by
  obtain ⟨ao, cap, rfl, hcap, hmax⟩ := hv.slice
  obtain ⟨n, hn⟩ := hide l.length
  have HF : Hid (∀ w', Below w.heap.size w w' → Turns F w' (.slice ao n cap) l) := fun w' hb => by rw [← hn.out]; exact hv.frame (Plain.good _) (Agree.below hb)
  rw [hn.out] at hmax ⊢
  have Hr := Lib.hid hr
  have KT := Lib.hid (talks_law w)
  clear hv hr hcap
  go_enter Try.func4, Try.ntmps4
  by_cases hbig : n ≤ 16384
  rotate_left
  · go_wp2_with fail
    go_ret
    exact ⟨rfl, Below.refl _ _⟩
  go_wp2_with fail
  refine KT.out.mono ?_
  rintro e w1 ⟨z1, rfl, hx1, hl1, hb1⟩
  obtain ⟨T, hT⟩ := hide w.heap.size
  have HS1 : Hid (St w w1 T 0 talks0 z1) := ⟨by rw [← hT.out]; exact hx1, ok0, hl1, hb1⟩
  rw [hT.out]
  clear hx1 hl1 hb1
  go_wp2_with fail
  refine (sendT_law talks0 0 1 [102, 105, 114, 115, 116] z1 w1 T HS1.out.x (ok0.small.mono (by omega)) (by omega) (by omega)).mono ?_
  rintro e w2 ⟨rfl, z2, hx2, hc2⟩
  have HS2 : Hid (∃ z t, St w w2 T 1 t z) := ⟨_, _, HS1.out.step hx2 hc2 (ok_send ok0 (by omega) (by omega) (by omega) _).2⟩
  rw [(ok_send ok0 (i := 0) (j := 1) (by omega) (by omega) (by omega) [102, 105, 114, 115, 116]).1]
  clear hx2 hc2
  go_wp2_with fail
  go_loopw [4, 5] (fun s4 s5 wr => ∃ i : Nat, s4 = .bool true ∧ s5 = .int .i64 i ∧ i ≤ n ∧ Hid (∃ z t, St w wr T (160 * i + 1) t z)) (fun _ s _ => n - (intOf s).toNat)
  case atStart => exact ⟨0, rfl, rfl, Nat.zero_le _, HS2⟩
  case round =>
    obtain ⟨i, rfl, rfl, hi, hx⟩ := hrel
    by_cases hlt : i < n
    · obtain ⟨z, t, hS⟩ := hx.out
      have hil : i < l.length := by rw [hn.out]; exact hlt
      obtain ⟨b, off, us, rfl, hFb, hlen, hus, hcells⟩ := (HF.out wr hS.bel).at hil
      have hus' : us = rowTu l[i] := hus
      obtain ⟨hr1, hr2, hr3⟩ := Hr.out _ (List.getElem_mem hil)
      obtain ⟨y, hy⟩ := hide l[i]
      rw [hy.out] at hus' hr1 hr2 hr3
      subst hus'
      have c0 := hcells 0 _ rfl
      have c1 := hcells 1 _ rfl
      have c2 := hcells 2 _ rfl
      have c3 := hcells 3 _ rfl
      rw [Nat.add_zero] at c0
      have KU := Lib.hid (turn_law t (160 * i + 1) y.kd y.hst y.num y.body z wr T hS.x hS.ok (by omega) hr1 hr2 hr3)
      have HS := Lib.hid hS
      have hii : (i : Int) < (n : Int) := by omega
      clear hcells hus hlen hFb hr1 hr2 hr3 hS
      go_wp2_with fail
      refine KU.out.mono ?_
      rintro e w3 ⟨rfl, z3, t3, hx3, hc3, ho3⟩
      have HS3 := Lib.hid (HS.out.step hx3 hc3 ho3)
      clear hx3 hc3 ho3
      go_wp2_with fail
      refine (right_law t3 _ z3 w3 T HS3.out.x HS3.out.ok (by omega)).mono ?_
      rintro e w4 ⟨rfl, m4, rfl⟩
      have HS4 : Hid (∃ z t, St w (w3.drewN m4) T (160 * (i + 1) + 1) t z) := ⟨_, _, (HS3.out.drewN m4).mono (by omega)⟩
      go_wp2_with fail
      go_roundw
      case rel => exact ⟨i + 1, rfl, by go_num, by omega, HS4⟩
      case measure => simp [intOf]; omega
    · obtain rfl : i = n := by omega
      have HA0 : Hid (∃ z t, St w wr T (160 * i + 1 + 160 * 0) t z ∧ ∀ k, k < 0 → k < 3 → AllOf t k) := by
        obtain ⟨z, t, hS⟩ := hx.out
        exact ⟨z, t, hS, fun k hk => absurd hk (Nat.not_lt_zero _)⟩
      obtain ⟨V0, hV0⟩ : ∃ V, V = wr := ⟨_, rfl⟩
      subst hV0
      clear hx HS1 HS2 hi hlt
      go_wp2_with fail
      go_loopw [4, 6] (fun s4 s6 wr => ∃ j : Nat, s4 = .bool true ∧ s6 = .int .i64 j ∧ j ≤ 6 ∧ Hid (∃ z t, St w wr T (160 * i + 1 + 160 * j) t z ∧ ∀ k, k < j → k < 3 → AllOf t k)) (fun _ s _ => 6 - (intOf s).toNat)
      case atStart => exact ⟨0, rfl, rfl, Nat.zero_le _, HA0⟩
      case round =>
        obtain ⟨j, rfl, rfl, hj, hx⟩ := hrel
        obtain ⟨V1, hV1⟩ : ∃ V, V = wr := ⟨_, rfl⟩
        subst hV1
        by_cases hlt : j < 6
        · obtain ⟨z, t, hS, hA⟩ := hx.out
          obtain ⟨h, hh⟩ : ∃ h, h = j % 3 := ⟨_, rfl⟩
          have h3 : h < 3 := by omega
          have hrem : (j : Int).tmod 3 = (h : Int) := by rw [hh]; rfl
          have h3i : (h : Int) < 3 := by omega
          obtain ⟨⟨hv, wv, sv, cv, Bs, hblk, hp⟩, hz⟩ := hS.x
          obtain ⟨hg, hc, rfl⟩ := own_ptr hp.hosts.1 (by decide)
          have c0 := cell_n hblk 0 (cellsT_hosts _ _ _ _ _)
          have e0 := own_cell hp.hosts.1 (three h3)
          have KP := Lib.hid (packets_law (t.hosts h) (fun g => z g = 2 + h) V1 (Bs h) (hp.rel h h3) (fun k hk => wait_le hS.ok.inv h3))
          have HS := Lib.hid hS
          have HA := Lib.hid hA
          have Hh := Lib.hid hh
          have hpl := packets_len hS.ok.inv h3
          have hwn : t.way.length ≤ 160 * i + 1 + 160 * j := hS.ok.way
          have HPs : Hid (Pass { t with way := t.way ++ packetsP (t.hosts h) } h (min j 3)) := pass_start h3 hS.ok.inv (fun k hk hk3 => hA k (by omega) hk3)
          clear hblk hp hS hA hx hh
          go_wp2_with fail
          refine KP.out.mono ?_
          rintro e w3 ⟨v3, rfl, ho3, hb3⟩
          obtain ⟨a3, k3, rfl⟩ := owns_slice ho3
          obtain ⟨l1, hl1⟩ := hide (packetsP (t.hosts h)).length
          have Hl1 := Lib.hid hl1.out
          rw [hl1.out] at ho3 hpl ⊢
          have HS3 := Lib.hid (HS.out.new hb3)
          obtain ⟨⟨hv3, wv3, sv3, cv3, Bs3, hblk3, hp3⟩, hz3⟩ := HS3.out.x
          obtain ⟨aw, cw, hwv⟩ := owns_slice hp3.way.1
          subst hwv
          have hsrc : Src Try.prog 5 28 (.slice a3 l1 k3) l1 ((packetsP (t.hosts h)).flatMap rowP) w3 := src_own Try.underlying28 ho3 (fun u hu => by obtain ⟨p, _, hp⟩ := List.mem_flatMap.1 hu; exact rowP_one p u hp)
          have HsW2 := Lib.hid hsrc
          obtain ⟨m, hm⟩ := hide t.way.length
          have Hm := Lib.hid hm.out
          rw [hm.out] at hblk3 hp3 hwn
          have HoW : Hid (w3.ownsRow 0 34 5 (.slice aw m cw) m (t.way.flatMap rowP)) := by have h := hp3.way.1; show World.ownsRow _ _ _ _ _ _ _; rw [← hm.out] at h ⊢; exact h
          have v1 := cell_n hblk3 1 (cellsT_way _ _ _ _ _)
          have Hblk3 := Lib.hid hblk3
          have Hp3 := Lib.hid hp3
          clear ho3 hb3 hsrc hblk3 hp3 c0 e0
          go_wp2_with (at_builtin; refine wpList_append_at rfl _ _ 28 28 rfl 0 34 _ 5 48 Try.underlying28 info_pkt rfl _ _ _ rfl HoW.out _ _ _ rfl HsW2.out (by unfold maxLen; omega) (by omega) (Nat.zero_le _) ?_)
          intro v9 w9 ho9 hg9 hb9
          obtain ⟨a9, k9, rfl⟩ := owns_slice ho9
          have hTz5 : some T ≠ (Value.slice aw m cw).ownBlock := fun e => by have := Hp3.out.way.2 T e.symm; omega
          have hB9 := (hg9.block T (lt_of_block Hblk3.out) hTz5).trans Hblk3.out
          have d1 := cell_n hB9 1 (cellsT_way _ _ _ _ _)
          have g1 := free_n hB9 1
          have HFin := Lib.hid (way_fin Hp3.out (TalkC.refl z w3) hz3 Hm.out Hl1.out hg9 ho9 hb9 Hblk3.out)
          obtain ⟨V4, hV4⟩ := hide (w9.setCell ⟨T, 1, none⟩ (.slice a9 (m + l1) k9))
          have d2 : V4.cell? ⟨T, 1, none⟩ = some (.slice a9 (m + l1) k9) := by
            rw [← hV4.out]
            have h1 : (w9.setCell ⟨T, 1, none⟩ (.slice a9 (m + l1) k9)).heap[T]? = _ := blkT_set hB9 1 _
            rw [cellsT_setWay] at h1
            exact cell_n h1 1 (cellsT_way _ _ _ _ _)
          have HS4 : Hid (∃ z', St w V4 T (160 * i + 1 + 160 * j + 160) { t with way := t.way ++ packetsP (t.hosts h) } z') := by
            obtain ⟨z', h1, h2⟩ := HFin.out
            rw [hV4.out] at h1 h2
            exact ⟨z', HS3.out.step h1 h2 (ok_packets HS3.out.ok h3)⟩
          have HW4 : Hid (weight (t.way ++ packetsP (t.hosts h)) ≤ 2 * (m + l1)) := by
            have := weight_le (t.way ++ packetsP (t.hosts h))
            rw [List.length_append, Hm.out, Hl1.out] at this
            exact this
          have q1 : IntKind.i64.wrap (2 * ((m : Int) + (l1 : Int))) = 2 * ((m : Int) + (l1 : Int)) := IntWalk.i64_in _ (by omega)
          have q2 : IntKind.i64.wrap (2 * ((m : Int) + (l1 : Int)) + 9) = 2 * ((m : Int) + (l1 : Int)) + 9 := IntWalk.i64_in _ (by omega)
          clear v1 ho9 hg9 hb9 hB9 hz hz3
          go_upto_region 18 with fail
          rw [hV4.out]
          clear d1 g1
          go_wp2_with fail
          go_loopw [4, 8] (fun s4 s8 wr => ∃ nn : Nat, s4 = .bool true ∧ s8 = .int .i64 nn ∧ nn ≤ 2147483647 ∧ Hid (∃ z t, St w wr T (160 * i + 1 + 160 * j + 160) t z ∧ Pass t h (min j 3) ∧ weight t.way + 9 ≤ nn)) (fun _ s _ => (intOf s).toNat)
          case atStart =>
            obtain ⟨z', h1⟩ := HS4.out
            refine ⟨2 * (m + l1) + 9, rfl, ?_, by omega, ⟨z', _, h1, HPs.out, by have := HW4.out; show weight (t.way ++ packetsP (t.hosts h)) + 9 ≤ _; omega⟩⟩
            go_num
          case round =>
            obtain ⟨nn, rfl, rfl, hnn, hx⟩ := hrel
            obtain ⟨V5, hV5⟩ : ∃ V, V = wr := ⟨_, rfl⟩
            subst hV5
            obtain ⟨z5, t5, hS5, hP5, hw5⟩ := hx.out
            obtain ⟨⟨hv5, wv5, sv5, cv5, Bs5, hblk5, hp5⟩, hz5⟩ := hS5.x
            obtain ⟨a5, c5, hwv⟩ := owns_slice hp5.way.1
            subst hwv
            have v5 := cell_n hblk5 1 (cellsT_way _ _ _ _ _)
            clear d2
            rcases hw : t5.way with _ | ⟨p, r⟩
            · rw [hw] at v5
              have v5 : V5.cell? ⟨T, 1, none⟩ = some (.slice a5 0 c5) := v5
              have HA5 := Lib.hid (pass_end hP5 h3 (by have := Hh.out; omega) hw)
              have HS5 := Lib.hid hS5
              clear hblk5 hp5 hS5 hP5 hx
              go_wp2_with fail
              go_roundw
              case rel =>
                refine ⟨j + 1, rfl, by go_num, by omega, ⟨z5, t5, HS5.out, fun k hk hk3 => HA5.out k (by have := Hh.out; omega) hk3⟩⟩
              case measure => simp [intOf]; omega
            · have hl5 : t5.way.length = r.length + 1 := by rw [hw]; rfl
              rw [hl5] at v5
              have hwn5 : t5.way.length ≤ 160 * i + 1 + 160 * j + 160 := hS5.ok.way
              rw [hl5] at hwn5
              obtain ⟨hb5, hP6, hw6⟩ := pass_step h3 hP5 hw
              have HFn : Fine { t5 with way := r } p := fine_way (hS5.ok.inv.way p (by rw [hw]; exact List.mem_cons_self ..))
              have hOr : Ok (160 * i + 1 + 160 * j + 160) { t5 with way := r } := ok_way hS5.ok (fun q hq => hS5.ok.inv.way q (by rw [hw]; exact List.mem_cons_of_mem _ hq)) (by omega) (Nat.le_refl _)
              have hOc := (ok_comes hOr HFn (by show r.length + 1 ≤ _; omega)).2
              have KO := Lib.hid (off_as t5 0 z5 V5 T hS5.x (by omega) (by omega) p (by simp [hw]))
              have her : { t5 with way := t5.way.eraseIdx 0 } = { t5 with way := r } := by rw [hw]; rfl
              rw [her] at KO
              obtain ⟨i2, j2, hi2, hj2, hij2, e1, e2, _, _⟩ := HFn
              obtain ⟨yf, yt, yn, ya, yb⟩ := p
              simp only [] at e1 e2
              subst e1 e2
              have HOr := Lib.hid hOr
              have HOc := Lib.hid hOc
              have HP6 := Lib.hid hP6
              have Hb5 := Lib.hid hb5
              have HS5 := Lib.hid hS5
              have Hw5 := Lib.hid hw5
              have Hw6 := Lib.hid hw6
              obtain ⟨rl, hrl⟩ := hide r.length
              rw [hrl.out] at v5 hwn5
              have hnn0 : (0 : Int) < (nn : Int) := by omega
              have hnn1 : 0 < nn := by omega
              have hrli : (0 : Int) < (rl : Int) + 1 := by omega
              clear hblk5 hp5 hS5 hP5 hx hb5 hP6 hOr hOc hw hl5 her hw5 hw6
              go_wp2_with fail
              refine KO.out.mono ?_
              rintro e w6 ⟨rfl, z6, hx6, hc6⟩
              obtain ⟨W2, hW2⟩ := hide (w6.alloc (.cells #[.int .i64 ((i2 : Int) + 1), .int .i64 ((j2 : Int) + 1), .int .i64 yn, .bool ya, str yb] 34))
              obtain ⟨R, hR⟩ := hide w6.heap.size
              have HR2 : Hid (W2.heap[R]? = some (blkP ⟨(i2 : Int) + 1, (j2 : Int) + 1, yn, ya, yb⟩)) := by show _ = _; rw [← hW2.out, ← hR.out]; exact hp_at _ _ rfl
              have Hb2 : Hid (Below w6.heap.size w6 W2) := by show Below _ _ _; rw [← hW2.out]; exact (Below.refl _ _).alloc (Nat.le_refl _) _
              have y0 := cell_n HR2.out 0 (v := .int .i64 ((i2 : Int) + 1)) rfl
              have y1 := cell_n HR2.out 1 (v := .int .i64 ((j2 : Int) + 1)) rfl
              have y2 := cell_n HR2.out 2 (v := .int .i64 yn) rfl
              have y3 := cell_n HR2.out 3 (v := .bool ya) rfl
              have y4 := cell_n HR2.out 4 (v := str yb) rfl
              have HS6 := Lib.hid ((HS5.out.step hx6 hc6 HOr.out).new Hb2.out)
              clear hx6 hc6 v5
              go_upto_region 22 with fail
              rw [hW2.out, hR.out]
              go_wp2_with fail
              refine (comes_law _ i2 j2 yn ya yb z6 _ T HS6.out.x (HS6.out.ok.small.mono (by omega)) hi2 hj2).mono ?_
              rintro e w7 ⟨rfl, z7, hx7, hc7⟩
              rw [Hb5.out]
              have HS7 := Lib.hid (HS6.out.step hx7 hc7 HOc.out)
              clear hx7 hc7 y0 y1 y2 y3 y4
              go_wp2_with fail
              go_roundw
              case rel =>
                refine ⟨nn - 1, rfl, by go_num, by omega, ⟨z7, _, HS7.out, HP6.out, by have := Hw6.out; have := Hw5.out; omega⟩⟩
              case measure => simp [intOf]; omega
        · obtain rfl : j = 6 := by omega
          obtain ⟨z, t, hS, hA⟩ := hx.out
          obtain ⟨hle, hpk⟩ := all_end hS.ok.inv (fun k hk => hA k (by omega) hk)
          have HS := Lib.hid hS
          have Hle := Lib.hid hle
          have Hpk := Lib.hid hpk
          have hSm := hS.ok.small
          have Hlc : Hid (∀ k, k < 16 → (t.came k).length ≤ 1073741824) := fun k hk => Nat.le_trans (hSm.lcame k hk) (by omega)
          obtain ⟨⟨hv, wv, sv, cv, Bs, hblk, hp⟩, hz⟩ := hS.x
          have Hblk := Lib.hid hblk
          have Hp := Lib.hid hp
          clear hx hS hA hle hpk hblk hp hSm hj hlt
          go_wp2_with fail
          go_loopw [10] (fun s wr => ∃ k : Nat, s = .int .i64 k ∧ k ≤ 16 ∧ Hid (∃ m, wr = V1.drewN m)) (fun s _ => 16 - (intOf s).toNat)
          case atStart => exact ⟨0, rfl, Nat.zero_le _, ⟨0, rfl⟩⟩
          case round =>
            obtain ⟨k, rfl, hk, hm⟩ := hrel
            obtain ⟨V6, hV6⟩ : ∃ V, V = wr := ⟨_, rfl⟩
            subst hV6
            by_cases hlt : k < 16
            · obtain ⟨a, c, hcv⟩ := owns_slice (Hp.out.came.own k hlt)
              obtain ⟨b, d, hsv⟩ := owns_slice (Hp.out.sent.own k hlt)
              have hb : Hid (V6.heap[T]? = some (blkT hv wv sv cv t.known)) := by obtain ⟨m, hm⟩ := hm.out; show _ = _; rw [hm]; exact Hblk.out
              have c1 := cell_n hb.out (18 + k) (cellsT_came _ _ _ _ _ hlt)
              have c2 := cell_n hb.out (2 + k) (cellsT_sent _ _ _ _ _ hlt)
              rw [hcv] at c1
              rw [hsv] at c2
              have hlk := Hlc.out k hlt
              have hek := Hle.out k hlt
              rw [hek] at c1 hlk
              obtain ⟨ls, hls⟩ := hide (t.sent k).length
              rw [hls.out] at c1 c2 hlk
              have hki : (k : Int) < 16 := by omega
              clear hcv hsv hek
              go_upto_region 28 with fail
              go_cut [109] (fun s wx => s = .bool false ∧ Hid (∃ m, wx = V6.drewN m))
              case first =>
                go_quiet (fail)
                go_wp2_with fail
                go_meet
                exact ⟨by simp, ⟨_, rfl⟩⟩
              case rest =>
                obtain ⟨U, hU⟩ : ∃ U, U = wc := ⟨_, rfl⟩
                subst hU
                obtain ⟨rfl, hm1⟩ := hcut
                go_wp2_with fail
                go_roundw
                case rel => exact ⟨k + 1, by go_num, by omega, by obtain ⟨m, hm⟩ := hm.out; obtain ⟨m', hm'⟩ := hm1.out; exact ⟨m + m', by rw [hm', hm, World.drewN_drewN]⟩⟩
                case measure => simp [intOf]; omega
            · obtain rfl : k = 16 := by omega
              have HS6 : Hid (St w V6 T (160 * i + 1 + 160 * 6) t z) := by obtain ⟨m, hm⟩ := hm.out; show St _ _ _ _ _ _; rw [hm]; exact HS.out.drewN m
              clear hm
              go_wp2_with fail
              refine (right_law t _ z V6 T HS6.out.x HS6.out.ok (by omega)).mono ?_
              rintro e w4 ⟨rfl, m4, hw4⟩
              have HS7 : Hid (St w w4 T (160 * i + 1 + 160 * 6) t z) := by show St _ _ _ _ _ _; rw [hw4]; exact HS6.out.drewN m4
              clear hw4
              obtain ⟨⟨hv7, wv7, sv7, cv7, Bs7, hblk7, hp7⟩, _⟩ := HS7.out.x
              obtain ⟨hg, hc, rfl⟩ := own_ptr hp7.hosts.1 (by decide)
              have c0 := cell_n hblk7 0 (cellsT_hosts _ _ _ _ _)
              have e0 := own_cell hp7.hosts.1 (three (i := 0) (by omega))
              have KP0 := Lib.hid (packets_none (t.hosts 0) (fun g => z g = 2 + 0) w4 (Bs7 0) (hp7.rel 0 (by omega)) (fun k hk => wait_le HS7.out.ok.inv (by omega)) (Hpk.out 0 (by omega)))
              have HK7 : Hid (∀ w', Below w4.heap.size w4 w' → w'.heap[T]? = some (blkT (.slice (some ⟨hg, 0, none⟩) 3 hc) wv7 sv7 cv7 t.known) ∧ Parts 3 z w' (.slice (some ⟨hg, 0, none⟩) 3 hc) wv7 sv7 cv7 Bs7 t) := fun w' hb => ⟨(hb.block T (lt_of_block hblk7)).trans hblk7, hp7.new hb⟩
              clear hblk7 hp7
              go_wp2_with fail
              refine KP0.out.mono ?_
              rintro e w5 ⟨a5, k5, rfl, hb5⟩
              have Hb5 := Lib.hid hb5
              obtain ⟨hblk8, hp8⟩ := HK7.out w5 hb5
              have c1 := cell_n hblk8 0 (cellsT_hosts _ _ _ _ _)
              have e1 := own_cell hp8.hosts.1 (three (i := 1) (by omega))
              have KP1 := Lib.hid (packets_none (t.hosts 1) (fun g => z g = 2 + 1) w5 (Bs7 1) (hp8.rel 1 (by omega)) (fun k hk => wait_le HS7.out.ok.inv (by omega)) (Hpk.out 1 (by omega)))
              clear hblk8 hp8 hb5 c0 e0
              go_wp2_with fail
              refine KP1.out.mono ?_
              rintro e w6 ⟨a6, k6, rfl, hb6⟩
              have Hb6 : Hid (Below w4.heap.size w4 w6) := Hb5.out.trans (hb6.mono Hb5.out.size)
              obtain ⟨hblk9, hp9⟩ := HK7.out w6 Hb6.out
              have c2 := cell_n hblk9 0 (cellsT_hosts _ _ _ _ _)
              have e2 := own_cell hp9.hosts.1 (three (i := 2) (by omega))
              have KP2 := Lib.hid (packets_none (t.hosts 2) (fun g => z g = 2 + 2) w6 (Bs7 2) (hp9.rel 2 (by omega)) (fun k hk => wait_le HS7.out.ok.inv (by omega)) (Hpk.out 2 (by omega)))
              clear hblk9 hp9 hb6 c1 e1
              go_wp2_with fail
              refine KP2.out.mono ?_
              rintro e w7 ⟨a7, k7, rfl, hb7⟩
              have Hb7 : Hid (Below w.heap.size w w7) := HS7.out.bel.trans ((Hb6.out.trans (hb7.mono Hb6.out.size)).mono HS7.out.bel.size)
              clear hb7 c2 e2
              go_wp2_with fail
              go_ret
              exact ⟨rfl, Hb7.out⟩
end Go.Proofs.Ytckclacdmpcpbaa
