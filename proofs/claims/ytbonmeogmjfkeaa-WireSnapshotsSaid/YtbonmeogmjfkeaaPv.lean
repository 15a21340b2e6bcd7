/-
  Writing tables: the document's way.
-/
import Derived.Test.YtbonmeogmjfkeaaPu
import Derived.Test.YtbonmeogmjfkeaaTu
import Derived.Deep.CutBlock
namespace Go.Proofs.Ytbonmeogmjfkeaa
open Go.RowKit Wm Mm
set_option linter.unusedVariables false

theorem ref_int (n : Int) (h0 : 0 ≤ n) (h1 : n ≤ 1099511627775) (w : World) :
    Calls Try.prog 82 #[.int .i64 n] w fun e w' => e = .returned (str (putNum n.toNat)) ∧ Below w.heap.size w w' := by
  obtain ⟨m, rfl⟩ := Int.eq_ofNat_of_zero_le h0
  exact ref_number_any (by omega) w
theorem putKeys_take (l : List (List UInt8)) (k : Nat) (h : k < l.length) : putKeys (l.take (k + 1)) = putKeys (l.take k) ++ putText l[k] := by rw [take_snoc' l k h, putKeys_snoc]

set_option maxHeartbeats 4000000 in
set_option maxRecDepth 100000 in
theorem ref_putTable (vp vs : Value) (t : Tab) (w : World) (ht : Table2 w vp vs t) :
    Calls Try.prog 61 #[.agg #[vp, vs, .int .i64 t.time]] w fun e w' =>
      e = .returned (.tuple #[str (putTabB t), .int .i64 (putTabE t)]) ∧ Below w.heap.size w w' := by
  have hwv : Hid (∀ w1, Below w.heap.size w w1 → Calls Try.prog 120 #[.agg #[vp, vs, .int .i64 t.time]] w1 fun e w' => e = .returned (.bool (tabB t)) ∧ Below w1.heap.size w1 w') := fun w1 h => ref_isTable vp vs t w1 (ht.mono h)
  obtain ⟨po, pcap, rfl, _⟩ := ht.p.slice
  obtain ⟨so, scap, rfl, _⟩ := ht.s.slice
  obtain ⟨W1, hW1⟩ := hide (w.alloc (.cells #[.slice po t.pairs.length pcap, .slice so t.sess.length scap, .int .i64 t.time] 109))
  have hc0 : W1.heap[w.heap.size]? = some (.cells #[.slice po t.pairs.length pcap, .slice so t.sess.length scap, .int .i64 t.time] 109 (0, 0)) := by rw [← hW1.out]; exact hp_at _ _ rfl
  have hb1 : Below w.heap.size w W1 := by rw [← hW1.out]; exact (Below.refl _ _).alloc (Nat.le_refl _) _
  have Hx : Hid (∀ w', Below W1.heap.size W1 w' → w'.heap[w.heap.size]? = some (.cells #[.slice po t.pairs.length pcap, .slice so t.sess.length scap, .int .i64 t.time] 109 (0, 0)) ∧ Below w.heap.size w w' ∧ Table2 w' (.slice po t.pairs.length pcap) (.slice so t.sess.length scap) t) := fun w' h => ⟨(h.block _ (lt_of_block hc0)).trans hc0, hb1.trans (h.mono hb1.size), ht.mono (hb1.trans (h.mono hb1.size))⟩
  have HT := Lib.hid ht
  obtain ⟨B, hB⟩ := hide w.heap.size
  have Hws : Hid (B < W1.heap.size) := by rw [← hB.out]; exact lt_of_block hc0
  rw [hB.out] at Hx hwv
  have H0 := Lib.hid (Below.refl W1.heap.size W1)
  clear ht hc0 hb1
  have b0 := cell_n ((Hx.out _ H0.out).1) 0 (v := .slice po t.pairs.length pcap) rfl
  have b1 := cell_n ((Hx.out _ H0.out).1) 1 (v := .slice so t.sess.length scap) rfl
  have b2 := cell_n ((Hx.out _ H0.out).1) 2 (v := .int .i64 t.time) rfl
  obtain ⟨rb, hrb⟩ := hide (putTabB t)
  obtain ⟨re, hre⟩ := hide (putTabE t)
  rw [hrb.out, hre.out]
  go_enter Try.func61, Try.ntmps61
  go_upto_region 1 with fail
  rw [hW1.out, hB.out]
  go_wp2_with fail
  refine (hwv.out _ (Hx.out _ H0.out).2.1).mono ?_
  rintro e w2 ⟨rfl, hb2⟩
  have H2 := Lib.hid (H0.out.trans (hb2.mono H0.out.size))
  clear b0 b1 b2 hb2
  cases hok : tabB t with
  | false =>
    obtain rfl : [] = rb := by rw [← hrb.out, putTabB, if_neg (by simp [hok])]
    obtain rfl : 6 = re := by rw [← hre.out, putTabE, if_neg (by simp [hok])]
    clear hok
    have Hf := Lib.hid (Hx.out _ H2.out).2.1
    go_wp2_with fail
    go_ret2
    exact ⟨rfl, by rw [hB.out]; exact Hf.out⟩
  | true =>
  obtain rfl : putTab t = rb := by rw [← hrb.out, putTabB, if_pos hok]
  obtain rfl : 0 = re := by rw [← hre.out, putTabE, if_pos hok]
  obtain ⟨f1, f2, f3, f4, f5, f6⟩ := tab_facts hok
  have g1 := putNum_len10 (n := t.time.toNat) (by omega)
  have g2 := putNum_len10 (n := t.pairs.length) (by omega)
  have g3 := putPairs_len t.pairs f2
  have g4 := putNum_len10 (n := t.sess.length) (by omega)
  have KT := Lib.hid (fun w' => ref_int t.time f5 f6 w')
  have KP := Lib.hid (fun w' => ref_number_any (n := t.pairs.length) (by omega) w')
  have KS := Lib.hid (fun w' => ref_number_any (n := t.sess.length) (by omega) w')
  have e4 : putTab t = putNum t.time.toNat ++ putNum t.pairs.length ++ putPairs t.pairs ++ putNum t.sess.length ++ putSs t.sess := by rw [putTab]; simp only [List.append_assoc]
  obtain ⟨n1, hn1⟩ := hide (putNum t.time.toNat)
  obtain ⟨n2, hn2⟩ := hide (putNum t.pairs.length)
  obtain ⟨n4, hn4⟩ := hide (putNum t.sess.length)
  rw [hn1.out] at KT g1 e4
  rw [hn2.out] at KP g2 e4
  rw [hn4.out] at KS g4 e4
  have hs12 : n1.length + n2.length ≤ 9223372036854775807 := by omega
  obtain ⟨p2, hp2⟩ := hide (n1 ++ n2)
  have hq2 : p2.length ≤ 18 := by rw [← hp2.out, List.length_append]; omega
  rw [hp2.out] at e4
  obtain ⟨p3, hp3⟩ := hide (p2 ++ putPairs t.pairs)
  have hq3 : p3.length ≤ 3500 := by rw [← hp3.out, List.length_append]; omega
  rw [hp3.out] at e4
  have hs34 : p3.length + n4.length ≤ 9223372036854775807 := by omega
  obtain ⟨p4, hp4⟩ := hide (p3 ++ n4)
  have hq4 : p4.length ≤ 3600 := by rw [← hp4.out, List.length_append]; omega
  rw [hp4.out] at e4
  have E4 := Lib.hid e4
  have HF2 := Lib.hid f2
  have HF4 := Lib.hid f4
  have HQ2 := Lib.hid hq2
  have HQ4 := Lib.hid hq4
  have HF3 := Lib.hid f3
  have HF1 := Lib.hid f1
  clear hok f1 f2 f3 f4 f5 f6 g1 g2 g3 g4 hq2 hq3 hq4 e4
  have b0 := cell_n ((Hx.out _ H2.out).1) 0 (v := .slice po t.pairs.length pcap) rfl
  have b1 := cell_n ((Hx.out _ H2.out).1) 1 (v := .slice so t.sess.length scap) rfl
  have b2 := cell_n ((Hx.out _ H2.out).1) 2 (v := .int .i64 t.time) rfl
  go_wp2_with fail
  refine (KT.out _).mono ?_
  rintro e w3 ⟨rfl, hb3⟩
  have H3 := Lib.hid (H2.out.trans (hb3.mono H2.out.size))
  clear hb3 b0 b1 b2
  have b0 := cell_n ((Hx.out _ H3.out).1) 0 (v := .slice po t.pairs.length pcap) rfl
  have b1 := cell_n ((Hx.out _ H3.out).1) 1 (v := .slice so t.sess.length scap) rfl
  have b2 := cell_n ((Hx.out _ H3.out).1) 2 (v := .int .i64 t.time) rfl
  go_wp2_with fail
  refine (KP.out _).mono ?_
  rintro e w4 ⟨rfl, hb3⟩
  have H4 := Lib.hid (H3.out.trans (hb3.mono H3.out.size))
  clear hb3 b0 b1 b2
  go_wp2_with fail
  go_loopw [7, 8] (fun s i wr => ∃ k : Nat, i = .int .i64 k ∧ k ≤ t.pairs.length ∧ s = str (p2 ++ putPairs (t.pairs.take k)) ∧ Hid (Below W1.heap.size W1 wr)) (fun _ i _ => t.pairs.length - (intOf i).toNat)
  case atStart => exact ⟨0, rfl, Nat.zero_le _, by simp [putPairs, hp2.out], H4.out⟩
  case round =>
    obtain ⟨k, rfl, hk, rfl, hb⟩ := hrel
    by_cases hlt : k < t.pairs.length
    · have hcell : ∀ w', Below W1.heap.size W1 w' → ∃ bb off, po = some ⟨bb, off, none⟩ ∧ w'.cell? ⟨bb, off + k * 3, none⟩ = some (str t.pairs[k].key) ∧ w'.cell? ⟨bb, off + k * 3 + 1, none⟩ = some (str t.pairs[k].val) ∧ w'.cell? ⟨bb, off + k * 3 + 2, none⟩ = some (.int .i64 t.pairs[k].ver) := fun w' h => (Hx.out _ h).2.2.p.at hlt
      obtain ⟨bb, off, rfl, c0, _, _⟩ := hcell _ hb.out
      have hcell2 : ∀ w', Below W1.heap.size W1 w' → w'.cell? ⟨bb, off + k * 3, none⟩ = some (str t.pairs[k].key) ∧ w'.cell? ⟨bb, off + k * 3 + 1, none⟩ = some (str t.pairs[k].val) ∧ w'.cell? ⟨bb, off + k * 3 + 2, none⟩ = some (.int .i64 t.pairs[k].ver) := by
        intro w' h
        obtain ⟨bb', off', e1, h1⟩ := hcell w' h
        injection e1 with e1
        injection e1 with e1 e2
        subst e1; subst e2
        exact h1
      have hpo := HF2.out _ (List.getElem_mem hlt)
      have hlen : (p2 ++ putPairs (t.pairs.take k)).length ≤ 3500 := by
        have g := putPairs_len (t.pairs.take k) (fun x hx => HF2.out x (List.mem_of_mem_take hx))
        have g' : (t.pairs.take k).length ≤ 32 := by have := HF1.out; simp; omega
        have := HQ2.out
        rw [List.length_append]; omega
      have hsn : p2 ++ putPairs (t.pairs.take (k + 1)) = p2 ++ putPairs (t.pairs.take k) ++ putText t.pairs[k].key ++ putText t.pairs[k].val ++ putNum t.pairs[k].ver.toNat := by
        rw [take_snoc' t.pairs k hlt, putPairs_snoc, putPair]; simp only [List.append_assoc]
      obtain ⟨P, hP⟩ := hide t.pairs[k]
      rw [hP.out] at c0 hcell2 hpo hsn
      obtain ⟨key, val, ver⟩ := P
      simp only [] at c0 hcell2 hsn
      obtain ⟨h16, h64, hv1, hv2⟩ := hpo
      simp only [] at h16 h64 hv1 hv2
      have HE := Lib.hid hcell2
      have K1 := Lib.hid (fun w' => ref_text key w' (by omega))
      have K2 := Lib.hid (fun w' => ref_text val w' (by omega))
      have K3 := Lib.hid (fun w' => ref_int ver (by omega) hv2 w')
      have hl1 := putText_len key (by omega)
      have hl2 := putText_len val (by omega)
      have hl3 := putNum_len10 (n := ver.toNat) (by omega)
      obtain ⟨q0, hq0⟩ := hide (p2 ++ putPairs (t.pairs.take k))
      obtain ⟨m1, hm1⟩ := hide (putText key)
      obtain ⟨m2, hm2⟩ := hide (putText val)
      obtain ⟨m3, hm3⟩ := hide (putNum ver.toNat)
      rw [hq0.out] at hsn hlen ⊢
      rw [hm1.out] at hsn hl1 K1
      rw [hm2.out] at hsn hl2 K2
      rw [hm3.out] at hsn hl3 K3
      have hsa : q0.length + m1.length ≤ 9223372036854775807 := by omega
      have hsb : q0.length + m1.length + m2.length ≤ 9223372036854775807 := by omega
      have hsc : q0.length + m1.length + m2.length + m3.length ≤ 9223372036854775807 := by omega
      have Hsn := Lib.hid hsn
      clear hcell hcell2 hsn hlen h16 h64 hv1 hv2 hl1 hl2 hl3
      have b0 := cell_n ((Hx.out _ hb.out).1) 0 (v := .slice (some ⟨bb, off, none⟩) t.pairs.length pcap) rfl
      have b1 := cell_n ((Hx.out _ hb.out).1) 1 (v := .slice so t.sess.length scap) rfl
      have b2 := cell_n ((Hx.out _ hb.out).1) 2 (v := .int .i64 t.time) rfl
      go_wp2_with fail
      refine (K1.out _).mono ?_
      rintro e w6 ⟨rfl, hb6⟩
      have H6 := Lib.hid (hb.out.trans (hb6.mono hb.out.size))
      clear hb6 b0 b1 b2 c0
      have c0 := (HE.out _ H6.out).2.1
      have b0 := cell_n ((Hx.out _ H6.out).1) 0 (v := .slice (some ⟨bb, off, none⟩) t.pairs.length pcap) rfl
      have b1 := cell_n ((Hx.out _ H6.out).1) 1 (v := .slice so t.sess.length scap) rfl
      have b2 := cell_n ((Hx.out _ H6.out).1) 2 (v := .int .i64 t.time) rfl
      go_wp2_with fail
      refine (K2.out _).mono ?_
      rintro e w7 ⟨rfl, hb6⟩
      have H7 := Lib.hid (H6.out.trans (hb6.mono H6.out.size))
      clear hb6 b0 b1 b2 c0
      have c0 := (HE.out _ H7.out).2.2
      have b0 := cell_n ((Hx.out _ H7.out).1) 0 (v := .slice (some ⟨bb, off, none⟩) t.pairs.length pcap) rfl
      have b1 := cell_n ((Hx.out _ H7.out).1) 1 (v := .slice so t.sess.length scap) rfl
      have b2 := cell_n ((Hx.out _ H7.out).1) 2 (v := .int .i64 t.time) rfl
      go_wp2_with fail
      refine (K3.out _).mono ?_
      rintro e w8 ⟨rfl, hb6⟩
      have H8 := Lib.hid (H7.out.trans (hb6.mono H7.out.size))
      clear hb6 b0 b1 b2 c0
      go_wp2_with fail
      go_roundw
      case rel => exact ⟨k + 1, by go_num, hlt, by rw [Hsn.out]; simp, H8⟩
      case measure => simp [intOf]; omega
    · have hkn : k = t.pairs.length := by omega
      have e1 : p2 ++ putPairs (t.pairs.take k) = p3 := by rw [hkn, List.take_length, hp3.out]
      rw [e1]
      clear hkn e1
      have b0 := cell_n ((Hx.out _ hb.out).1) 0 (v := .slice po t.pairs.length pcap) rfl
      have b1 := cell_n ((Hx.out _ hb.out).1) 1 (v := .slice so t.sess.length scap) rfl
      have b2 := cell_n ((Hx.out _ hb.out).1) 2 (v := .int .i64 t.time) rfl
      go_wp2_with fail
      refine (KS.out _).mono ?_
      rintro e w6 ⟨rfl, hb6⟩
      have H6 := Lib.hid (hb.out.trans (hb6.mono hb.out.size))
      clear hb6 b0 b1 b2
      go_upto_block 2 with fail
      rw [hp4.out]
      go_wp2_with fail
      go_loopw [7, 13] (fun s i wr => ∃ k : Nat, i = .int .i64 k ∧ k ≤ t.sess.length ∧ s = str (p4 ++ putSs (t.sess.take k)) ∧ Hid (Below W1.heap.size W1 wr)) (fun _ i _ => t.sess.length - (intOf i).toNat)
      case atStart => exact ⟨0, rfl, Nat.zero_le _, by simp [putSs], H6.out⟩
      case round =>
        obtain ⟨k, rfl, hk, rfl, hb⟩ := hrel
        by_cases hlt : k < t.sess.length
        · obtain ⟨bb, off, kv, rfl, hks, hcs⟩ := HT.out.s.at hlt
          have hbw : Below w.heap.size w wr := by rw [hB.out]; exact (Hx.out _ hb.out).2.1
          have hpo := HF4.out _ (List.getElem_mem hlt)
          have hlen : (p4 ++ putSs (t.sess.take k)).length ≤ 12000 := by
            have g := putSs_len (t.sess.take k) (fun x hx => HF4.out x (List.mem_of_mem_take hx))
            have g' : (t.sess.take k).length ≤ 8 := by have := HF3.out; simp; omega
            have := HQ4.out
            rw [List.length_append]; omega
          have hsn : p4 ++ putSs (t.sess.take (k + 1)) = p4 ++ putSs (t.sess.take k) ++ putSess t.sess[k] := by
            rw [take_snoc' t.sess k hlt, putSs_snoc]; simp only [List.append_assoc]
          obtain ⟨P, hP⟩ := hide t.sess[k]
          rw [hP.out] at hks hcs hpo hsn
          obtain ⟨client, last, kind, val, ver, keys, seen⟩ := P
          simp only [] at hks hcs
          obtain ⟨hc1, hc2, hl1, hl2, hs1, hs2, hro⟩ := hpo
          simp only [] at hc1 hc2 hl1 hl2 hs1 hs2 hro
          obtain ⟨r1, r2, r3, r4, r5, r6, r7⟩ := hro
          obtain ⟨cn, rfl⟩ := Int.eq_ofNat_of_zero_le (by omega : 0 ≤ client)
          obtain ⟨ln, rfl⟩ := Int.eq_ofNat_of_zero_le hl1
          obtain ⟨sn, rfl⟩ := Int.eq_ofNat_of_zero_le hs1
          obtain ⟨kn, rfl⟩ := Int.eq_ofNat_of_zero_le r1
          obtain ⟨vn, rfl⟩ := Int.eq_ofNat_of_zero_le r4
          obtain ⟨ko, kcap, rfl, _⟩ := hks.slice
          have hse : putSess ⟨(cn : Int), (ln : Int), (kn : Int), val, (vn : Int), keys, (sn : Int)⟩ = putNums [cn, ln, sn, kn] ++ putText val ++ putNum vn ++ putNum keys.length ++ putKeys keys := by
            simp [putSess, putRes, putNums]
          rw [hse] at hsn
          have hcc : ∀ i u, (rowSess ⟨(cn : Int), (ln : Int), (kn : Int), val, (vn : Int), keys, (sn : Int)⟩ (.slice ko keys.length kcap))[i]? = some u → wr.cell? ⟨bb, off + k * 7 + i, none⟩ = some u := fun i u hu => (hbw.cell (p := ⟨bb, off + k * 7 + i, none⟩) (World.block_lt_of_cell? _ _ (hcs i u hu))).trans (hcs i u hu)
          have c0 := hcc 0 (.int .i64 (cn : Nat)) rfl
          have c1 := hcc 1 (.int .i64 (ln : Nat)) rfl
          have c2 := hcc 2 (.int .i64 (kn : Nat)) rfl
          have c3 := hcc 3 (str val) rfl
          have c4 := hcc 4 (.int .i64 (vn : Nat)) rfl
          have c5 := hcc 5 (.slice ko keys.length kcap) rfl
          have c6 := hcc 6 (.int .i64 (sn : Nat)) rfl
          rw [Nat.add_zero] at c0
          obtain ⟨U, hU⟩ := hide (wr.alloc (.cells #[.int .i64 (cn : Nat), .int .i64 (ln : Nat), .int .i64 (kn : Nat), str val, .int .i64 (vn : Nat), .slice ko keys.length kcap, .int .i64 (sn : Nat)] 192))
          obtain ⟨U2, hU2⟩ := hide (U.alloc (.cells #[.int .i64 (cn : Nat), .int .i64 (ln : Nat), .int .i64 (sn : Nat), .int .i64 (kn : Nat)] 3))
          have hb0 : Below W1.heap.size W1 U := by rw [← hU.out]; exact hb.out.alloc hb.out.size _
          have hcU0 : U.heap[wr.heap.size]? = some (.cells #[.int .i64 (cn : Nat), .int .i64 (ln : Nat), .int .i64 (kn : Nat), str val, .int .i64 (vn : Nat), .slice ko keys.length kcap, .int .i64 (sn : Nat)] 192 (0, 0)) := by rw [← hU.out]; exact hp_at _ _ rfl
          have hcU : U2.heap[wr.heap.size]? = some (.cells #[.int .i64 (cn : Nat), .int .i64 (ln : Nat), .int .i64 (kn : Nat), str val, .int .i64 (vn : Nat), .slice ko keys.length kcap, .int .i64 (sn : Nat)] 192 (0, 0)) := by rw [← hU2.out]; exact (hp_past _ _ (by have := lt_of_block hcU0; omega)).trans hcU0
          have hcI : U2.heap[U.heap.size]? = some (.cells #[.int .i64 (cn : Nat), .int .i64 (ln : Nat), .int .i64 (sn : Nat), .int .i64 (kn : Nat)] 3 (0, 0)) := by rw [← hU2.out]; exact hp_at _ _ rfl
          have hb2 : Below W1.heap.size W1 U2 := by rw [← hU2.out]; exact hb0.alloc hb0.size _
          have HU : Hid (∀ w', Below U2.heap.size U2 w' → w'.heap[wr.heap.size]? = some (.cells #[.int .i64 (cn : Nat), .int .i64 (ln : Nat), .int .i64 (kn : Nat), str val, .int .i64 (vn : Nat), .slice ko keys.length kcap, .int .i64 (sn : Nat)] 192 (0, 0)) ∧ w'.heap[U.heap.size]? = some (.cells #[.int .i64 (cn : Nat), .int .i64 (ln : Nat), .int .i64 (sn : Nat), .int .i64 (kn : Nat)] 3 (0, 0)) ∧ Below W1.heap.size W1 w') := fun w' h => ⟨(h.block _ (lt_of_block hcU)).trans hcU, (h.block _ (lt_of_block hcI)).trans hcI, hb2.trans (h.mono hb2.size)⟩
          have Hks : Hid (∀ w', Below W1.heap.size W1 w' → Strs w' (.slice ko keys.length kcap) keys) := fun w' h => hks.mono (by rw [hB.out]; exact (Hx.out _ h).2.1)
          have hnl : ∀ n ∈ [cn, ln, sn, kn], n < 1099511627776 := by
            intro n hn
            simp at hn
            rcases hn with rfl | rfl | rfl | rfl <;> omega
          have HNL := Lib.hid hnl
          have K1 := Lib.hid (fun w' => ref_text val w' (by omega))
          have K2 := Lib.hid (fun w' => ref_number_any (n := vn) (by omega) w')
          have K3 := Lib.hid (fun w' => ref_number_any (n := keys.length) (by omega) w')
          have K4 : Hid (∀ j (hj : j < keys.length) w', Calls Try.prog 89 #[str keys[j]] w' fun e w'' => e = .returned (str (putText keys[j])) ∧ Below w'.heap.size w' w'') := fun j hj w' => ref_text keys[j] w' (by have := r7 _ (List.getElem_mem hj); omega)
          have hm1l := putText_len val (by omega)
          have hm2l := putNum_len10 (n := vn) (by omega)
          have hm3l := putNum_len10 (n := keys.length) (by omega)
          have H16 := Lib.hid r7
          have H32 := Lib.hid r6
          obtain ⟨q0, hq0⟩ := hide (p4 ++ putSs (t.sess.take k))
          obtain ⟨m1, hm1⟩ := hide (putText val)
          obtain ⟨m2, hm2⟩ := hide (putNum vn)
          obtain ⟨m3, hm3⟩ := hide (putNum keys.length)
          rw [hq0.out] at hsn hlen ⊢
          rw [hm1.out] at hsn hm1l K1
          rw [hm2.out] at hsn hm2l K2
          rw [hm3.out] at hsn hm3l K3
          have Hlen := Lib.hid hlen
          have Hsn := Lib.hid hsn
          have Hm1l := Lib.hid hm1l
          have Hm2l := Lib.hid hm2l
          have Hm3l := Lib.hid hm3l
          have Hr3 := Lib.hid r3
          have d0 := cell_n hcU0 0 (v := .int .i64 (cn : Nat)) rfl
          have d1 := cell_n hcU0 1 (v := .int .i64 (ln : Nat)) rfl
          have d2 := cell_n hcU0 2 (v := .int .i64 (kn : Nat)) rfl
          have d6 := cell_n hcU0 6 (v := .int .i64 (sn : Nat)) rfl
          clear hse hsn hlen hc1 hc2 hl1 hl2 hs1 hs2 r1 r2 r3 r4 r5 r6 r7 hks hcs hcc hbw hb0 hcU hcU0 hcI hb2 hnl hm1l hm2l hm3l
          have b0 := cell_n ((Hx.out _ hb.out).1) 0 (v := .slice po t.pairs.length pcap) rfl
          have b1 := cell_n ((Hx.out _ hb.out).1) 1 (v := .slice (some ⟨bb, off, none⟩) t.sess.length scap) rfl
          have b2 := cell_n ((Hx.out _ hb.out).1) 2 (v := .int .i64 t.time) rfl
          go_upto_region 20 with fail
          rw [hU.out]
          obtain ⟨Q, hQ⟩ := hide wr.heap.size
          rw [hQ.out] at HU d0 d1 d2 d6 ⊢
          clear b0 b1 b2 c0 c1 c2 c3 c4 c5 c6
          go_upto_region 21 with fail
          rw [hU2.out]
          obtain ⟨Q2, hQ2⟩ := hide U.heap.size
          rw [hQ2.out] at HU ⊢
          clear d0 d1 d2 d6
          go_wp2_with fail
          go_loopw [7, 16] (fun s i wx => ∃ j : Nat, i = .int .i64 j ∧ j ≤ 4 ∧ s = str (q0 ++ putNums ([cn, ln, sn, kn].take j)) ∧ Hid (Below U2.heap.size U2 wx)) (fun _ i _ => 4 - (intOf i).toNat)
          case atStart => exact ⟨0, rfl, by decide, by simp [putNums], Below.refl _ _⟩
          case round =>
            obtain ⟨j, rfl, hj, rfl, hbx⟩ := hrel
            by_cases hj4 : j < 4
            · have hcj : ∃ x : Nat, [cn, ln, sn, kn][j]? = some x ∧ wr.cell? ⟨Q2, j, none⟩ = some (.int .i64 (x : Nat)) := by
                have hI := (HU.out _ hbx.out).2.1
                match j, hj4 with
                | 0, _ => exact ⟨cn, rfl, cell_n hI 0 rfl⟩
                | 1, _ => exact ⟨ln, rfl, cell_n hI 1 rfl⟩
                | 2, _ => exact ⟨sn, rfl, cell_n hI 2 rfl⟩
                | 3, _ => exact ⟨kn, rfl, cell_n hI 3 rfl⟩
              obtain ⟨x, hx1, cj⟩ := hcj
              have hmem : x ∈ [cn, ln, sn, kn] := List.mem_of_getElem? hx1
              have hxb := HNL.out x hmem
              have hst : q0 ++ putNums ([cn, ln, sn, kn].take (j + 1)) = q0 ++ putNums ([cn, ln, sn, kn].take j) ++ putNum x := by
                obtain ⟨hjl, e⟩ := List.getElem?_eq_some_iff.1 hx1
                rw [take_snoc' _ j hjl, putNums_snoc, e, List.append_assoc]
              have hql : (q0 ++ putNums ([cn, ln, sn, kn].take j)).length ≤ 12100 := by
                have g := putNums_len ([cn, ln, sn, kn].take j) (fun n hn => by have := HNL.out n (List.mem_of_mem_take hn); omega)
                have g' : ([cn, ln, sn, kn].take j).length ≤ 4 := by rw [List.length_take]; simp; omega
                have := Hlen.out
                rw [List.length_append]; omega
              have KN := Lib.hid (ref_number_any (n := x) (by omega) wr)
              have hnl := putNum_len10 (n := x) (by omega)
              obtain ⟨mx, hmx⟩ := hide (putNum x)
              obtain ⟨qj, hqj⟩ := hide (q0 ++ putNums ([cn, ln, sn, kn].take j))
              rw [hmx.out] at hst hnl KN
              rw [hqj.out] at hst hql ⊢
              have hsum : qj.length + mx.length ≤ 9223372036854775807 := by omega
              have Hst := Lib.hid hst
              have t4 : decide ((j : Int) < 4) = true := decide_eq_true (by omega)
              clear hst hql hnl hmem hxb hx1
              go_wp2_with fail
              refine KN.out.mono ?_
              rintro e w9 ⟨rfl, hb9⟩
              have H9 := Lib.hid (hbx.out.trans (hb9.mono hbx.out.size))
              clear hb9 cj KN
              go_wp2_with fail
              go_roundw
              case rel => exact ⟨j + 1, by go_num, hj4, by rw [Hst.out], H9⟩
              case measure => simp [intOf]; omega
            · have hj5 : j = 4 := by omega
              have t4 : decide ((j : Int) < 4) = false := decide_eq_false (by omega)
              have e5 : q0 ++ putNums ([cn, ln, sn, kn].take j) = q0 ++ putNums [cn, ln, sn, kn] := by rw [hj5]; rfl
              rw [e5]
              have hq5l : (q0 ++ putNums [cn, ln, sn, kn]).length ≤ 12100 := by
                have g := putNums_len [cn, ln, sn, kn] (fun n hn => by have := HNL.out n hn; omega)
                have := Hlen.out
                rw [List.length_append]; simp at g; omega
              have hsn := Hsn.out
              rw [← List.append_assoc, ← List.append_assoc, ← List.append_assoc, ← List.append_assoc] at hsn
              obtain ⟨q5, hq5⟩ := hide (q0 ++ putNums [cn, ln, sn, kn])
              rw [hq5.out] at hsn hq5l ⊢
              have hsa : q5.length + m1.length ≤ 9223372036854775807 := by have := Hm1l.out; have := Hr3.out; omega
              have hsb : q5.length + m1.length + m2.length ≤ 9223372036854775807 := by have := Hm1l.out; have := Hr3.out; have := Hm2l.out; omega
              have hsc : q5.length + m1.length + m2.length + m3.length ≤ 9223372036854775807 := by have := Hm1l.out; have := Hr3.out; have := Hm2l.out; have := Hm3l.out; omega
              have hs6 : (q5 ++ m1 ++ m2 ++ m3).length ≤ 12300 := by have := Hm1l.out; have := Hr3.out; have := Hm2l.out; have := Hm3l.out; simp; omega
              have Hs6 := Lib.hid hs6
              have Hsn2 := Lib.hid hsn
              clear hsn hq5l hj4 hj5 e5 hs6
              have d0 := cell_n (HU.out _ hbx.out).1 0 (v := .int .i64 (cn : Nat)) rfl
              have d1 := cell_n (HU.out _ hbx.out).1 1 (v := .int .i64 (ln : Nat)) rfl
              have d2 := cell_n (HU.out _ hbx.out).1 2 (v := .int .i64 (kn : Nat)) rfl
              have d3 := cell_n (HU.out _ hbx.out).1 3 (v := str val) rfl
              have d4 := cell_n (HU.out _ hbx.out).1 4 (v := .int .i64 (vn : Nat)) rfl
              have d5 := cell_n (HU.out _ hbx.out).1 5 (v := .slice ko keys.length kcap) rfl
              have d6 := cell_n (HU.out _ hbx.out).1 6 (v := .int .i64 (sn : Nat)) rfl
              go_wp2_with fail
              refine (K1.out _).mono ?_
              rintro e w9 ⟨rfl, hb9⟩
              have H9 := Lib.hid (hbx.out.trans (hb9.mono hbx.out.size))
              clear hb9 d0 d1 d2 d3 d4 d5 d6
              have d0 := cell_n (HU.out _ H9.out).1 0 (v := .int .i64 (cn : Nat)) rfl
              have d1 := cell_n (HU.out _ H9.out).1 1 (v := .int .i64 (ln : Nat)) rfl
              have d2 := cell_n (HU.out _ H9.out).1 2 (v := .int .i64 (kn : Nat)) rfl
              have d3 := cell_n (HU.out _ H9.out).1 3 (v := str val) rfl
              have d4 := cell_n (HU.out _ H9.out).1 4 (v := .int .i64 (vn : Nat)) rfl
              have d5 := cell_n (HU.out _ H9.out).1 5 (v := .slice ko keys.length kcap) rfl
              have d6 := cell_n (HU.out _ H9.out).1 6 (v := .int .i64 (sn : Nat)) rfl
              go_wp2_with fail
              refine (K2.out _).mono ?_
              rintro e w10 ⟨rfl, hb9⟩
              have H10 := Lib.hid (H9.out.trans (hb9.mono H9.out.size))
              clear hb9 d0 d1 d2 d3 d4 d5 d6
              have d0 := cell_n (HU.out _ H10.out).1 0 (v := .int .i64 (cn : Nat)) rfl
              have d1 := cell_n (HU.out _ H10.out).1 1 (v := .int .i64 (ln : Nat)) rfl
              have d2 := cell_n (HU.out _ H10.out).1 2 (v := .int .i64 (kn : Nat)) rfl
              have d3 := cell_n (HU.out _ H10.out).1 3 (v := str val) rfl
              have d4 := cell_n (HU.out _ H10.out).1 4 (v := .int .i64 (vn : Nat)) rfl
              have d5 := cell_n (HU.out _ H10.out).1 5 (v := .slice ko keys.length kcap) rfl
              have d6 := cell_n (HU.out _ H10.out).1 6 (v := .int .i64 (sn : Nat)) rfl
              go_wp2_with fail
              refine (K3.out _).mono ?_
              rintro e w11 ⟨rfl, hb9⟩
              have H11 := Lib.hid (H10.out.trans (hb9.mono H10.out.size))
              clear hb9 d0 d1 d2 d3 d4 d5 d6
              go_upto_block 6 with fail
              have e6 : q5 ++ (m1 ++ (m2 ++ m3)) = q5 ++ m1 ++ m2 ++ m3 := by simp only [List.append_assoc]
              rw [e6]
              clear e6 hsa hsb hsc
              obtain ⟨q6, hq6⟩ := hide (q5 ++ m1 ++ m2 ++ m3)
              rw [hq6.out] at Hs6 Hsn2 ⊢
              go_wp2_with fail
              go_loopw [7, 21] (fun s i wx => ∃ j : Nat, i = .int .i64 j ∧ j ≤ keys.length ∧ s = str (q6 ++ putKeys (keys.take j)) ∧ Hid (Below U2.heap.size U2 wx)) (fun _ i _ => keys.length - (intOf i).toNat)
              case atStart => exact ⟨0, rfl, Nat.zero_le _, by simp [putKeys], H11.out⟩
              case round =>
                obtain ⟨l, rfl, hl, rfl, hby⟩ := hrel
                have d0 := cell_n (HU.out _ hby.out).1 0 (v := .int .i64 (cn : Nat)) rfl
                have d1 := cell_n (HU.out _ hby.out).1 1 (v := .int .i64 (ln : Nat)) rfl
                have d2 := cell_n (HU.out _ hby.out).1 2 (v := .int .i64 (kn : Nat)) rfl
                have d3 := cell_n (HU.out _ hby.out).1 3 (v := str val) rfl
                have d4 := cell_n (HU.out _ hby.out).1 4 (v := .int .i64 (vn : Nat)) rfl
                have d5 := cell_n (HU.out _ hby.out).1 5 (v := .slice ko keys.length kcap) rfl
                have d6 := cell_n (HU.out _ hby.out).1 6 (v := .int .i64 (sn : Nat)) rfl
                by_cases hlk : l < keys.length
                · obtain ⟨b9, off9, rfl, ck⟩ := (Hks.out _ (HU.out _ hby.out).2.2).at hlk
                  have KN := Lib.hid (K4.out l hlk wr)
                  have hst : q6 ++ putKeys (keys.take (l + 1)) = q6 ++ putKeys (keys.take l) ++ putText keys[l] := by rw [putKeys_take keys l hlk, List.append_assoc]
                  have hql : (q6 ++ putKeys (keys.take l)).length ≤ 14000 := by
                    have g := putKeys_len (keys.take l) (fun x hx => H16.out x (List.mem_of_mem_take hx))
                    have g' : (keys.take l).length ≤ 32 := by have := H32.out; simp; omega
                    have := Hs6.out
                    rw [List.length_append]; omega
                  have hx16 := H16.out _ (List.getElem_mem hlk)
                  obtain ⟨x, hX⟩ := hide keys[l]
                  rw [hX.out] at ck KN hst hx16
                  have hxl := putText_len x (by omega)
                  obtain ⟨mx, hmx⟩ := hide (putText x)
                  obtain ⟨qj, hqj⟩ := hide (q6 ++ putKeys (keys.take l))
                  rw [hmx.out] at hst hxl KN
                  rw [hqj.out] at hst hql ⊢
                  have hsum : qj.length + mx.length ≤ 9223372036854775807 := by omega
                  have Hst := Lib.hid hst
                  clear hst hql hxl hx16
                  go_wp2_with fail
                  refine KN.out.mono ?_
                  rintro e w12 ⟨rfl, hb9⟩
                  have H12 := Lib.hid (hby.out.trans (hb9.mono hby.out.size))
                  clear hb9 ck KN d0 d1 d2 d3 d4 d5 d6
                  go_wp2_with fail
                  go_roundw
                  case rel => exact ⟨l + 1, by go_num, hlk, by rw [Hst.out], H12⟩
                  case measure => simp [intOf]; omega
                · have hkn : l = keys.length := by omega
                  have e7 : q6 ++ putKeys (keys.take l) = p4 ++ putSs (t.sess.take (k + 1)) := by rw [hkn, List.take_length, Hsn2.out]
                  rw [e7]
                  have Hf := Lib.hid (HU.out _ hby.out).2.2
                  clear hkn e7
                  go_wp2_with fail
                  go_roundw
                  case rel => exact ⟨k + 1, by go_num, hlt, rfl, Hf⟩
                  case measure => simp [intOf]; omega
        · have hkn : k = t.sess.length := by omega
          have e1 : p4 ++ putSs (t.sess.take k) = putTab t := by rw [hkn, List.take_length, E4.out]
          rw [e1]
          have Hf := Lib.hid (Hx.out _ hb.out).2.1
          clear hkn e1
          have b0 := cell_n ((Hx.out _ hb.out).1) 0 (v := .slice po t.pairs.length pcap) rfl
          have b1 := cell_n ((Hx.out _ hb.out).1) 1 (v := .slice so t.sess.length scap) rfl
          have b2 := cell_n ((Hx.out _ hb.out).1) 2 (v := .int .i64 t.time) rfl
          obtain ⟨p, hp⟩ := hide (putTab t)
          rw [hp.out]
          go_wp2_with fail
          go_ret2
          exact ⟨by rw [hp.out]; rfl, by rw [hB.out]; exact Hf.out⟩
end Go.Proofs.Ytbonmeogmjfkeaa
