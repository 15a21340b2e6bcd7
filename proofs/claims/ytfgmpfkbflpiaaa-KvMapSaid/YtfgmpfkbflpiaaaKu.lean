/-
  What the laws on the map compare and write over.
-/
import Derived.Test.YtfgmpfkbflpiaaaKt
namespace Go.Proofs.Ytfgmpfkbflpiaaa
open Go.RowKit Wm Mm Dg Kv
set_option linter.unusedVariables false
set_option linter.unusedSimpArgs false

abbrev Txs (F : Nat → Prop) (w : World) (v : Value) (l : List (List UInt8)) : Prop := Sl 1 (Plain rowText) F w v l
theorem own_txs {S : Nat} {w : World} {v : Value} {l : List (List UInt8)} (h : w.ownsRow S 9 1 v l.length (l.flatMap rowText)) : Txs (fun k => S ≤ k) w v l := Sl.own rowText (fun _ => rfl) h (fun _ _ => rfl) (fun _ _ h _ => h)
theorem Sl.txt {F : Nat → Prop} {w : World} {a : Option Addr} {n c : Nat} {l : List (List UInt8)} (h : Txs F w (.slice a n c) l) {k : Nat} (hk : k < l.length) :
    ∃ b off, a = some ⟨b, off, none⟩ ∧ w.cell? ⟨b, off + k, none⟩ = some (str l[k]) := by
  obtain ⟨b, off, us, e, _, _, hus, hcs⟩ := h.at hk
  have hus' : us = rowText l[k] := hus
  subst hus'
  have := hcs 0 _ rfl
  rw [Nat.mul_one, Nat.add_zero] at this
  exact ⟨b, off, e, this⟩

set_option maxHeartbeats 4000000 in
set_option maxRecDepth 100000 in
theorem ref_samePairs (vp vp2 : Value) (l : List PairP) (F G : Nat → Prop) (w : World) (h1 : Prs F w vp l) (h2 : Prs G w vp2 l) :
    Calls Try.prog 24 #[.agg #[vp, .slice none 0 0, .int .i64 0], .agg #[vp2, .slice none 0 0, .int .i64 0]] w fun e w' => e = .returned (.bool true) ∧ Below w.heap.size w w' := by
  obtain ⟨po, pcap, rfl, _, hpm⟩ := h1.slice
  obtain ⟨po2, pcap2, rfl, _, _⟩ := h2.slice
  obtain ⟨W1, hW1⟩ := hide (w.alloc (.cells #[.slice po l.length pcap, .slice none 0 0, .int .i64 0] 42))
  obtain ⟨W, hW⟩ := hide (W1.alloc (.cells #[.slice po2 l.length pcap2, .slice none 0 0, .int .i64 0] 42))
  obtain ⟨B, hB⟩ := hide w.heap.size
  have hc : W.heap[B]? = some (.cells #[.slice po l.length pcap, .slice none 0 0, .int .i64 0] 42 (0, 0)) := by
    rw [← hW.out]; exact (hp_past _ _ (by rw [← hW1.out, ← hB.out]; simp)).trans (by rw [← hW1.out]; exact hp_at _ _ hB.out.symm)
  have hd : W.heap[B + 1]? = some (.cells #[.slice po2 l.length pcap2, .slice none 0 0, .int .i64 0] 42 (0, 0)) := by
    rw [← hW.out]; exact hp_at _ _ (by rw [← hW1.out, ← hB.out]; simp)
  have hb0 : Below w.heap.size w W := by rw [← hW.out, ← hW1.out]; exact ((Below.refl _ _).alloc (Nat.le_refl _) _).alloc (by simp) _
  have HT : Hid (∀ w', Below W.heap.size W w' → Prs F w' (.slice po l.length pcap) l) := fun w' hb => h1.frame (Plain.good _) ((Agree.below hb0).trans (Agree.below hb))
  have HT2 : Hid (∀ w', Below W.heap.size W w' → Prs G w' (.slice po2 l.length pcap2) l) := fun w' hb => h2.frame (Plain.good _) ((Agree.below hb0).trans (Agree.below hb))
  have Hx : Hid (∀ w', Below W.heap.size W w' → w'.heap[B]? = some (.cells #[.slice po l.length pcap, .slice none 0 0, .int .i64 0] 42 (0, 0)) ∧ w'.heap[B + 1]? = some (.cells #[.slice po2 l.length pcap2, .slice none 0 0, .int .i64 0] 42 (0, 0))) :=
    fun w' h => ⟨(h.block _ (lt_of_block hc)).trans hc, (h.block _ (lt_of_block hd)).trans hd⟩
  have Hb0 := Lib.hid hb0
  obtain ⟨n, hn⟩ := hide l.length
  rw [hn.out] at hpm HT HT2 Hx hW1 hW
  rw [hn.out]
  have x0 := Hx.out _ (Below.refl _ _)
  have c0 := cell_n x0.1 0 (v := .slice po n pcap) rfl
  have c1 := cell_n x0.1 1 (v := .slice none 0 0) rfl
  have c2 := cell_n x0.1 2 (v := .int .i64 0) rfl
  have d0 := cell_n x0.2 0 (v := .slice po2 n pcap2) rfl
  have d1 := cell_n x0.2 1 (v := .slice none 0 0) rfl
  have d2 := cell_n x0.2 2 (v := .int .i64 0) rfl
  clear hc hd hb0 h1 h2 x0
  go_enter Try.func24, Try.ntmps24
  go_upto_region 1 with fail
  rw [hW1.out, hW.out, hB.out]
  go_wp2_with fail
  go_loopw [5] (fun i wr => ∃ k : Nat, i = .int .i64 k ∧ k ≤ n ∧ Hid (Below W.heap.size W wr)) (fun i _ => n - (intOf i).toNat)
  case atStart => exact ⟨0, rfl, Nat.zero_le _, Below.refl _ _⟩
  case round =>
    clear c0 c1 c2 d0 d1 d2
    obtain ⟨k, rfl, hk, hb⟩ := hrel
    have x0 := Hx.out _ hb.out
    have c0 := cell_n x0.1 0 (v := .slice po n pcap) rfl
    have d0 := cell_n x0.2 0 (v := .slice po2 n pcap2) rfl
    clear x0
    by_cases hlt : k < n
    · have hil : k < l.length := by rw [hn.out]; exact hlt
      obtain ⟨b, off, rfl, k0, k1, k2⟩ := Sl.three (HT.out _ hb.out) hil
      obtain ⟨b2, off2, rfl, m0, m1, m2⟩ := Sl.three (HT2.out _ hb.out) hil
      obtain ⟨x, hX⟩ := hide l[k]
      rw [hX.out] at k0 k1 k2 m0 m1 m2
      go_wp2_with (go_quiet (fail))
      go_roundw
      case rel => exact ⟨k + 1, by go_num, hlt, below_drewN hb.out _⟩
      case measure => simp [intOf]; omega
    · have x0 := Hx.out _ hb.out
      have c1 := cell_n x0.1 1 (v := .slice none 0 0) rfl
      clear x0
      go_wp2_with fail
      go_loopw [6, 7] (fun i _ wr => i = .int .i64 0 ∧ Hid (Below W.heap.size W wr)) (fun i _ _ => 0)
      case atStart => exact ⟨rfl, hb⟩
      case round =>
        clear c0 c1 d0
        obtain ⟨rfl, hb2⟩ := hrel
        have x0 := Hx.out _ hb2.out
        have c1 := cell_n x0.1 1 (v := .slice none 0 0) rfl
        clear x0
        go_wp2_with fail
        go_ret
        exact ⟨rfl, Hb0.out.trans (hb2.out.mono Hb0.out.size)⟩
theorem law_samePairs (vp vp2 : Value) (l : List PairP) (F G : Nat → Prop) (w : World) (h1 : Prs F w vp l) (h2 : Prs G w vp2 l) :
    Calls Try.prog 16 #[vp, vp2] w fun e w' => e = .returned (.bool true) ∧ Below w.heap.size w w' := by
  have K := Lib.hid (ref_samePairs vp vp2 l F G w h1 h2)
  obtain ⟨po, pcap, rfl, _, hpm⟩ := h1.slice
  obtain ⟨po2, pcap2, rfl, _, _⟩ := h2.slice
  obtain ⟨n, hn⟩ := hide l.length
  rw [hn.out] at K
  rw [hn.out]
  clear h1 h2 hpm
  go_enter Try.func16, Try.ntmps16
  go_wp2_with fail
  refine K.out.mono ?_
  rintro e w' ⟨rfl, hb⟩
  dsimp only
  have Hb := Lib.hid hb
  clear hb
  go_wp2_with fail
  go_ret
  exact ⟨rfl, Hb.out⟩

set_option maxHeartbeats 2000000 in
set_option maxRecDepth 100000 in
theorem ref_sameRes (kind : Int) (val : List UInt8) (ver : Int) (kv kv2 : Value) (keys : List (List UInt8)) (F G : Nat → Prop) (w : World) (hv : Txs F w kv keys) (hv2 : Txs G w kv2 keys) :
    Calls Try.prog 17 #[vRes kind val ver kv, vRes kind val ver kv2] w fun e w' => e = .returned (.bool true) ∧ Below w.heap.size w w' := by
  obtain ⟨ao, cap, rfl, _, hm⟩ := hv.slice
  obtain ⟨ao2, cap2, rfl, _, _⟩ := hv2.slice
  obtain ⟨W1, hW1⟩ := hide (w.alloc (.cells #[.int .i64 kind, str val, .int .i64 ver, .slice ao keys.length cap] 26))
  obtain ⟨W, hW⟩ := hide (W1.alloc (.cells #[.int .i64 kind, str val, .int .i64 ver, .slice ao2 keys.length cap2] 26))
  obtain ⟨B, hB⟩ := hide w.heap.size
  have hc : W.heap[B]? = some (.cells #[.int .i64 kind, str val, .int .i64 ver, .slice ao keys.length cap] 26 (0, 0)) := by
    rw [← hW.out]; exact (hp_past _ _ (by rw [← hW1.out, ← hB.out]; simp)).trans (by rw [← hW1.out]; exact hp_at _ _ hB.out.symm)
  have hd : W.heap[B + 1]? = some (.cells #[.int .i64 kind, str val, .int .i64 ver, .slice ao2 keys.length cap2] 26 (0, 0)) := by
    rw [← hW.out]; exact hp_at _ _ (by rw [← hW1.out, ← hB.out]; simp)
  have hb0 : Below w.heap.size w W := by rw [← hW.out, ← hW1.out]; exact ((Below.refl _ _).alloc (Nat.le_refl _) _).alloc (by simp) _
  have HV : Hid (∀ w', Below W.heap.size W w' → Txs F w' (.slice ao keys.length cap) keys) := fun w' hb => hv.frame (Plain.good _) ((Agree.below hb0).trans (Agree.below hb))
  have HV2 : Hid (∀ w', Below W.heap.size W w' → Txs G w' (.slice ao2 keys.length cap2) keys) := fun w' hb => hv2.frame (Plain.good _) ((Agree.below hb0).trans (Agree.below hb))
  have Hx : Hid (∀ w', Below W.heap.size W w' → w'.heap[B]? = some (.cells #[.int .i64 kind, str val, .int .i64 ver, .slice ao keys.length cap] 26 (0, 0)) ∧ w'.heap[B + 1]? = some (.cells #[.int .i64 kind, str val, .int .i64 ver, .slice ao2 keys.length cap2] 26 (0, 0))) :=
    fun w' h => ⟨(h.block _ (lt_of_block hc)).trans hc, (h.block _ (lt_of_block hd)).trans hd⟩
  have Hb0 := Lib.hid hb0
  obtain ⟨n, hn⟩ := hide keys.length
  rw [hn.out] at hm HV HV2 Hx hW1 hW
  rw [hn.out]
  have x0 := Hx.out _ (Below.refl _ _)
  have c0 := cell_n x0.1 0 (v := .int .i64 kind) rfl
  have c1 := cell_n x0.1 1 (v := str val) rfl
  have c2 := cell_n x0.1 2 (v := .int .i64 ver) rfl
  have c3 := cell_n x0.1 3 (v := .slice ao n cap) rfl
  have d0 := cell_n x0.2 0 (v := .int .i64 kind) rfl
  have d1 := cell_n x0.2 1 (v := str val) rfl
  have d2 := cell_n x0.2 2 (v := .int .i64 ver) rfl
  have d3 := cell_n x0.2 3 (v := .slice ao2 n cap2) rfl
  clear hc hd hb0 hv hv2 x0
  go_enter Try.func17, Try.ntmps17
  go_upto_region 1 with fail
  rw [hW1.out, hW.out, hB.out]
  go_wp2_with fail
  go_loopw [5] (fun i wr => ∃ k : Nat, i = .int .i64 k ∧ k ≤ n ∧ Hid (Below W.heap.size W wr)) (fun i _ => n - (intOf i).toNat)
  case atStart => exact ⟨0, rfl, Nat.zero_le _, Below.refl _ _⟩
  case round =>
    clear c0 c1 c2 c3 d0 d1 d2 d3
    obtain ⟨k, rfl, hk, hb⟩ := hrel
    have x0 := Hx.out _ hb.out
    have c3 := cell_n x0.1 3 (v := .slice ao n cap) rfl
    have d3 := cell_n x0.2 3 (v := .slice ao2 n cap2) rfl
    clear x0
    by_cases hlt : k < n
    · have hil : k < keys.length := by rw [hn.out]; exact hlt
      obtain ⟨b, off, rfl, ck⟩ := Sl.txt (HV.out _ hb.out) hil
      obtain ⟨b2, off2, rfl, dk⟩ := Sl.txt (HV2.out _ hb.out) hil
      obtain ⟨x, hX⟩ := hide keys[k]
      rw [hX.out] at ck dk
      go_wp2_with (go_quiet (fail))
      go_roundw
      case rel => exact ⟨k + 1, by go_num, hlt, below_drewN hb.out _⟩
      case measure => simp [intOf]; omega
    · go_wp2_with fail
      go_ret
      exact ⟨rfl, Hb0.out.trans (hb.out.mono Hb0.out.size)⟩

set_option maxHeartbeats 2000000 in
theorem law_overPairs (v : Value) (n S : Nat) (xs : List Value) (w : World) (h : w.ownsRow S 32 3 v n xs) (hn : n ≤ 3518437208800) (hS : S ≤ w.heap.size) :
    Calls Try.prog 18 #[v] w fun e w' => e = .returned (.tuple #[]) ∧ w.grownBy w' v.ownBlock := by
  obtain ⟨post, HP⟩ := hide (fun (e : Ending) (w' : World) => e = .returned (.tuple #[]) ∧ w.grownBy w' v.ownBlock)
  rw [HP.out]
  obtain ⟨ao, cap, rfl⟩ := owns_slice h
  have Hn := Lib.hid hn
  have Hh := Lib.hid h
  have HS := Lib.hid hS
  have hm : n ≤ 9223372036854775807 := by omega
  clear hn h hS
  go_enter Try.func18, Try.ntmps18
  go_wp2_with fail
  go_loopw [2] (fun i wr => ∃ k : Nat, ∃ ys : List Value, i = .int .i64 k ∧ k ≤ n ∧ Hid (wr.ownsRow S 32 3 (.slice ao n cap) n ys) ∧ Hid (w.grownBy wr (Value.slice ao n cap).ownBlock)) (fun i _ => n - (intOf i).toNat)
  case atStart => exact ⟨0, xs, rfl, Nat.zero_le _, Hh, ⟨rfl, rfl, rfl, Nat.le_refl _, fun _ _ _ => rfl⟩⟩
  case round =>
    obtain ⟨k, ys, rfl, hk, ho, hg⟩ := hrel
    by_cases hlt : k < n
    · obtain ⟨g, hao⟩ : ∃ g, ao = some ⟨g, 0, none⟩ := by
        rcases ho.out.2 with ⟨hv, h0⟩ | ⟨g', cap', cur, hv, _⟩
        · omega
        · injection hv with e1; exact ⟨g', e1⟩
      subst hao
      have hl := ho.out.1
      have u0 := own_cell ho.out (i := k * 3) (List.getElem?_eq_getElem (by omega))
      have u1 := own_cell ho.out (i := k * 3 + 1) (List.getElem?_eq_getElem (by omega))
      have u2 := own_cell ho.out (i := k * 3 + 2) (List.getElem?_eq_getElem (by omega))
      have f0 := own_free ho.out (k * 3)
      have f1 := own_free ho.out (k * 3 + 1)
      have f2 := own_free ho.out (k * 3 + 2)
      obtain ⟨y0, hy0⟩ := hide (ys[k * 3]'(by omega))
      rw [hy0.out] at u0
      obtain ⟨y1, hy1⟩ := hide (ys[k * 3 + 1]'(by omega))
      rw [hy1.out] at u1
      obtain ⟨y2, hy2⟩ := hide (ys[k * 3 + 2]'(by omega))
      rw [hy2.out] at u2
      have Ho2 := Lib.hid (own_put (own_put (own_put ho.out (k * 3) (str [])) (k * 3 + 1) (str [])) (k * 3 + 2) (.int .i64 (-7)))
      have Hg2 := Lib.hid (grown_trans (grown_trans (grown_trans hg.out (grown_setCell wr ⟨g, k * 3, none⟩ (str []))) (grown_setCell _ ⟨g, k * 3 + 1, none⟩ (str []))) (grown_setCell _ ⟨g, k * 3 + 2, none⟩ (.int .i64 (-7))))
      go_wp2_with fail
      go_roundw
      case rel => exact ⟨k + 1, _, by go_num, hlt, Ho2, Hg2⟩
      case measure => simp [intOf]; omega
    · have hkn : k = n := by omega
      have Hkn := Lib.hid hkn
      have hBs : S ≤ wr.heap.size := Nat.le_trans HS.out hg.out.size
      have Hsrc := Lib.hid (src_new (P := Try.prog) (w := wr) (e := 32) (e' := 32) (tx := 22) (size := 3) (n := 2) Try.underlying22 #[str [], str [], .int .i64 (-7), str [], str [], .int .i64 (-7)] 2 rfl (by intro u hu; simp only [List.mem_cons, List.not_mem_nil, or_false, or_self] at hu; rcases hu with hu | hu | hu | hu | hu | hu <;> (subst hu; rfl)))
      have Ho1 := Lib.hid (ho.out.alloc (.cells #[str [], str [], .int .i64 (-7), str [], str [], .int .i64 (-7)] 32))
      clear hkn
      go_wp2_with (at_builtin; refine wpList_append_src rfl _ _ 22 22 rfl S 32 _ 3 40 Try.underlying22 info_pair rfl _ _ _ rfl Ho1.out _ _ _ rfl Hsrc.out (by have := Hn.out; unfold maxLen; omega) (by have := Hn.out; omega) (by simp; omega) ?_)
      intro v' w2 _ hg2
      have Hg3 := Lib.hid (grown_trans hg.out (grown_trans (World.grownBy_alloc wr _ _) hg2))
      clear hg2
      go_wp2_with fail
      go_end0
      rw [← HP.out]
      exact ⟨rfl, Hg3.out⟩

set_option maxHeartbeats 2000000 in
theorem law_overTexts (v : Value) (n S : Nat) (xs : List Value) (w : World) (h : w.ownsRow S 9 1 v n xs) (hn : n ≤ 3518437208800) (hS : S ≤ w.heap.size) :
    Calls Try.prog 19 #[v] w fun e w' => e = .returned (.tuple #[]) ∧ w.grownBy w' v.ownBlock := by
  obtain ⟨post, HP⟩ := hide (fun (e : Ending) (w' : World) => e = .returned (.tuple #[]) ∧ w.grownBy w' v.ownBlock)
  rw [HP.out]
  obtain ⟨ao, cap, rfl⟩ := owns_slice h
  have Hn := Lib.hid hn
  have Hh := Lib.hid h
  have HS := Lib.hid hS
  have hm : n ≤ 9223372036854775807 := by omega
  clear hn h hS
  go_enter Try.func19, Try.ntmps19
  go_wp2_with fail
  go_loopw [2] (fun i wr => ∃ k : Nat, ∃ ys : List Value, i = .int .i64 k ∧ k ≤ n ∧ Hid (wr.ownsRow S 9 1 (.slice ao n cap) n ys) ∧ Hid (w.grownBy wr (Value.slice ao n cap).ownBlock)) (fun i _ => n - (intOf i).toNat)
  case atStart => exact ⟨0, xs, rfl, Nat.zero_le _, Hh, ⟨rfl, rfl, rfl, Nat.le_refl _, fun _ _ _ => rfl⟩⟩
  case round =>
    obtain ⟨k, ys, rfl, hk, ho, hg⟩ := hrel
    by_cases hlt : k < n
    · obtain ⟨g, hao⟩ : ∃ g, ao = some ⟨g, 0, none⟩ := by
        rcases ho.out.2 with ⟨hv, h0⟩ | ⟨g', cap', cur, hv, _⟩
        · omega
        · injection hv with e1; exact ⟨g', e1⟩
      subst hao
      have hl := ho.out.1
      have u0 := own_cell ho.out (i := k) (List.getElem?_eq_getElem (by omega))
      have f0 := own_free ho.out (k)
      obtain ⟨y0, hy0⟩ := hide (ys[k]'(by omega))
      rw [hy0.out] at u0
      have Ho2 := Lib.hid (own_put ho.out (k) (str [111, 118, 101, 114]))
      have Hg2 := Lib.hid (grown_trans hg.out (grown_setCell wr ⟨g, k, none⟩ (str [111, 118, 101, 114])))
      go_wp2_with fail
      go_roundw
      case rel => exact ⟨k + 1, _, by go_num, hlt, Ho2, Hg2⟩
      case measure => simp [intOf]; omega
    · have hkn : k = n := by omega
      have Hkn := Lib.hid hkn
      have hBs : S ≤ wr.heap.size := Nat.le_trans HS.out hg.out.size
      have Hsrc := Lib.hid (src_new (P := Try.prog) (w := wr) (e := 9) (e' := 9) (tx := 24) (size := 1) (n := 2) Try.underlying24 #[str [111, 118, 101, 114], str [111, 118, 101, 114]] 2 rfl (by intro u hu; simp only [List.mem_cons, List.not_mem_nil, or_false, or_self] at hu; subst hu; rfl))
      have Ho1 := Lib.hid (ho.out.alloc (.cells #[str [111, 118, 101, 114], str [111, 118, 101, 114]] 9))
      clear hkn
      go_wp2_with (at_builtin; refine wpList_append_src rfl _ _ 24 24 rfl S 9 _ 1 16 Try.underlying24 info_text rfl _ _ _ rfl Ho1.out _ _ _ rfl Hsrc.out (by have := Hn.out; unfold maxLen; omega) (by have := Hn.out; omega) (by simp; omega) ?_)
      intro v' w2 _ hg2
      have Hg3 := Lib.hid (grown_trans hg.out (grown_trans (World.grownBy_alloc wr _ _) hg2))
      clear hg2
      go_wp2_with fail
      go_end0
      rw [← HP.out]
      exact ⟨rfl, Hg3.out⟩
end Go.Proofs.Ytfgmpfkbflpiaaa
