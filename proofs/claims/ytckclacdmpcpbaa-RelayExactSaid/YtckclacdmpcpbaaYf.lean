/-
  Three hosts that talk: how they begin; something that is sent.
-/
import Derived.Test.YtckclacdmpcpbaaYe
namespace Go.Proofs.Ytckclacdmpcpbaa
open Go.RowKit Wm Mm Rl
set_option linter.unusedVariables false
set_option linter.unusedSimpArgs false

theorem Parts.addHost {k : Nat} {z : Nat → Nat} {w w1 w2 : World} {hv wv : Value} {sv cv : Nat → Value} {Bs : Nat → Nat} {t : TalkP} {B : Nat} {v : Value} (h : Parts k z w hv wv sv cv Bs t) (hk : k < 3) (hb : Below w.heap.size w w1) (hr : RelX (fun g => w.heap.size ≤ g) w1 B (t.hosts k))
    (hg : w1.grownBy w2 hv.ownBlock) (ho : w2.ownsRow 0 23 1 v (k + 1) (((List.range k).map fun i => .pointer (some ⟨Bs i, 0, none⟩)) ++ [.pointer (some ⟨B, 0, none⟩)])) (hv' : ∀ g, v.ownBlock = some g → hv.ownBlock = some g ∨ w1.heap.size ≤ g) :
    Parts (k + 1) (zon (zon z w.heap.size (2 + k)) w1.heap.size 1) w2 v wv sv cv (upd Bs k B) t := by
  have hle := h.le
  have c1 : Chg (fun g => z g = 2 + k) w w1 := Chg.fresh _ hb
  have h1 := rez_own h.hosts.1 h.hosts.2 c1 (by omega)
  have c2 : Chg (fun g => zon z w.heap.size (2 + k) g = 1) w1 w2 := Chg.grown hg (fun b e => h1.2 b e)
  have h2 := rez_own h.way.1 h.way.2 c1 (by omega)
  have h3 := rez_fam h.sent c1 (by omega)
  have h4 := rez_fam h.came c1 (by omega)
  refine ⟨by omega, ⟨?_, fun g hg => zon_or ((hv' g hg).imp (fun e => h1.2 g e) id)⟩, fun i hi => ?_, rez_own h2.1 h2.2 c2 (by omega), rez_fam h3 c2 (by omega), rez_fam h4 c2 (by omega)⟩
  · have e : ((List.range (k + 1)).map fun i => Value.pointer (some ⟨upd Bs k B i, 0, none⟩)) = ((List.range k).map fun i => Value.pointer (some ⟨Bs i, 0, none⟩)) ++ [.pointer (some ⟨B, 0, none⟩)] := by
      rw [List.range_succ, List.map_append]
      congr 1
      · refine List.map_congr_left fun i hi => ?_
        have := List.mem_range.1 hi
        rw [upd_ne _ _ (by omega)]
      · simp [upd_same]
    rw [e]
    exact ho
  · by_cases hik : i = k
    · subst hik
      rw [upd_same]
      have h5 : RelX (fun g => zon z w.heap.size (2 + i) g = 2 + i) w1 B (t.hosts i) := hr.weak (fun g _ hg => zon_new hg)
      exact rez_rel h5 c2 (by omega)
    · rw [upd_ne _ _ hik]
      exact rez_rel (rez_rel (h.rel i (by omega)) c1 (by omega)) c2 (by omega)

theorem zon_ge {z : Nat → Nat} {T n d : Nat} (h : ∀ g, z g ≤ 7 → T ≤ g) (hT : T ≤ n) : ∀ g, zon z n d g ≤ 7 → T ≤ g := fun g hg => by
  rcases Nat.lt_or_ge g n with h1 | h1
  · rw [zon_low h1] at hg; exact h g hg
  · omega
set_option maxHeartbeats 4000000 in
set_option maxRecDepth 100000 in
theorem talks_law (w : World) : Calls Try.prog 25 #[] w fun e w' => ∃ z, e = .returned (.pointer (some ⟨w.heap.size, 0, none⟩)) ∧ TalkX 3 z w' w.heap.size talks0 ∧ (∀ g, z g ≤ 7 → w.heap.size ≤ g) ∧ Below w.heap.size w w' := by
  obtain ⟨T, hT⟩ := hide w.heap.size
  rw [hT.out]
  obtain ⟨W, hW⟩ := hide (w.alloc (.cells #[.slice none 0 0, .slice none 0 0, .slice none 0 0, .slice none 0 0, .slice none 0 0, .slice none 0 0, .slice none 0 0, .slice none 0 0, .slice none 0 0, .slice none 0 0, .slice none 0 0, .slice none 0 0, .slice none 0 0, .slice none 0 0, .slice none 0 0, .slice none 0 0, .slice none 0 0, .slice none 0 0, .slice none 0 0, .slice none 0 0, .slice none 0 0, .slice none 0 0, .slice none 0 0, .slice none 0 0, .slice none 0 0, .slice none 0 0, .slice none 0 0, .slice none 0 0, .slice none 0 0, .slice none 0 0, .slice none 0 0, .slice none 0 0, .slice none 0 0, .slice none 0 0, .int .i64 0, .int .i64 0, .int .i64 0, .int .i64 0, .int .i64 0, .int .i64 0, .int .i64 0, .int .i64 0, .int .i64 0, .int .i64 0, .int .i64 0, .int .i64 0, .int .i64 0, .int .i64 0, .int .i64 0, .int .i64 0] 58))
  have HX0 : Hid (∃ z, TalkX 0 z W T talks0 ∧ ∀ g, z g ≤ 7 → T ≤ g) := by
    refine ⟨fun g => if g = T then 0 else 8, ⟨⟨.slice none 0 0, .slice none 0 0, fun _ => .slice none 0 0, fun _ => .slice none 0 0, fun _ => 0, ?_, ?_⟩, by simp⟩, fun g hg => ?_⟩
    · rw [← hW.out, ← hT.out]; exact hp_at _ _ rfl
    · exact ⟨by omega, ⟨World.ownsRow_nil _ _ _ _, fun g hg => by simp [Value.ownBlock] at hg⟩, fun i hi => by omega, ⟨World.ownsRow_nil _ _ _ _, fun g hg => by simp [Value.ownBlock] at hg⟩, Fam.nil _ _ _ _ _ _, Fam.nil _ _ _ _ _ _⟩
    · by_cases h : g = T
      · omega
      · simp [h] at hg
  have HB0 : Hid (Below T w W) := by show Below _ _ _; rw [← hW.out, ← hT.out]; exact (Below.refl _ _).alloc (Nat.le_refl _) _
  go_enter Try.func25, Try.ntmps25
  go_upto_region 2 with fail
  rw [hW.out, hT.out]
  go_wp2_with fail
  go_loopw [2] (fun s2 wr => ∃ k : Nat, s2 = .int .i64 ((k : Int) + 1) ∧ k ≤ 3 ∧ Hid (∃ z, TalkX k z wr T talks0 ∧ ∀ g, z g ≤ 7 → T ≤ g) ∧ Hid (Below T w wr)) (fun s2 _ => 4 - (intOf s2).toNat)
  case atStart => exact ⟨0, rfl, Nat.zero_le _, HX0, HB0⟩
  case round =>
    obtain ⟨k, rfl, hk, hx, hb⟩ := hrel
    by_cases hlt : k < 3
    · have KN := Lib.hid (new_law ((k : Int) + 1) wr)
      have ht : (decide (1 ≤ (k : Int) + 1) && decide ((k : Int) + 1 ≤ 9)) = true := by simp; omega
      rw [ht] at KN
      simp only [if_true] at KN
      have HTr : Hid (T ≤ wr.heap.size) := by have h1 := hb.out.size; show T ≤ _; have h2 : w.heap.size = T := hT.out; omega
      have q1 : (k : Int) + 1 ≤ 3 := by omega
      clear ht
      go_wp2_with fail
      refine KN.out.mono ?_
      rintro e w1 ⟨⟨rfl, hr⟩, hb1⟩
      obtain ⟨R, hR⟩ := hide wr.heap.size
      have Hr := Lib.hid hr
      have Hb1 := Lib.hid hb1
      obtain ⟨z, ⟨⟨hv, wv, sv, cv, Bs, hblk, hp⟩, hz⟩, hzs⟩ := hx.out
      have hblk1 := (hb1.block T (lt_of_block hblk)).trans hblk
      have Hblk0 := Lib.hid hblk
      obtain ⟨a, c, hva⟩ := owns_slice hp.hosts.1
      have hpa := hp
      rw [hva] at hpa hblk1
      have Hblk1 := Lib.hid hblk1
      have c0 := cell_n hblk1 0 (cellsT_hosts _ _ _ _ _)
      have f0 := free_n hblk1 0
      have Ho1 := Lib.hid (own_below hpa.hosts.1 hb1)
      have Hpa := Lib.hid hpa
      clear hr hb1 hblk hp hblk1 hva hpa
      rw [hR.out]
      go_wp2_with (at_builtin; refine wpList_push_at rfl _ _ 53 rfl 0 23 _ 1 8 Try.underlying53 info_relp rfl _ _ _ rfl Ho1.out _ rfl rfl (by intro u hu; simp at hu; subst hu; rfl) (by unfold maxLen; omega) (by omega) (Nat.zero_le _) ?_)
      intro v2 w2 ho2 hg2 hb2
      obtain ⟨a2, c2, rfl⟩ := owns_slice ho2
      have hTlt : T < wr.heap.size := by have := lt_of_block Hblk0.out; exact this
      have hTne : some T ≠ (Value.slice a k c).ownBlock := fun e => by have := Hpa.out.hosts.2 T e.symm; omega
      have hblk2 : w2.heap[T]? = some (blkT (.slice a k c) wv sv cv talks0.known) := (hg2.block T (by have := Hb1.out.size; omega) hTne).trans Hblk1.out
      have d0 := cell_n hblk2 0 (cellsT_hosts _ _ _ _ _)
      have g0 := free_n hblk2 0
      have hr2 : RelX (fun g => wr.heap.size ≤ g) w1 R (newP ((k : Int) + 1)) := by rw [← hR.out]; exact Hr.out
      have hp2 := Parts.addHost Hpa.out hlt Hb1.out hr2 hg2 ho2 hb2
      have HX3 : Hid (∃ z, TalkX (k + 1) z (w2.setCell ⟨T, 0, none⟩ (.slice a2 (k + 1) c2)) T talks0 ∧ ∀ g, z g ≤ 7 → T ≤ g) := by
        refine ⟨zon (zon z wr.heap.size (2 + k)) w1.heap.size 1, ⟨⟨_, _, _, _, _, ?_, hp2.chg0 (Chg.setCell w2 (a := ⟨T, 0, none⟩) ?_ _)⟩, ?_⟩, zon_ge (zon_ge hzs (by omega)) (by have := Hb1.out.size; omega)⟩
        · rw [blkT_set hblk2, cellsT_setHosts]
        · show zon _ _ _ T = 0
          rw [zon_low (by have := Hb1.out.size; omega), zon_low hTlt]; exact hz
        · rw [zon_low (by have := Hb1.out.size; omega), zon_low hTlt]; exact hz
      have HB3 : Hid (Below T w (w2.setCell ⟨T, 0, none⟩ (.slice a2 (k + 1) c2))) := by
        refine Below.setCell (p := ⟨T, 0, none⟩) (Below.trans (hb.out.trans (Hb1.out.mono HTr.out)) ⟨hg2.os, hg2.tape, hg2.output, hg2.size, fun j hj => hg2.block j (by have := Hb1.out.size; omega) (fun e => ?_)⟩) (Nat.le_refl _) _
        have h1 := Hpa.out.hosts.2 j e.symm
        have := hzs j (by omega)
        omega
      have q3 : IntKind.i64.wrap ((k : Int) + 1 + 1) = (k : Int) + 1 + 1 := IntWalk.i64_in _ (by omega)
      clear ho2 hg2 hb2 hblk2 hp2
      go_wp2_with fail
      go_roundw
      case rel => exact ⟨k + 1, by go_num, by omega, HX3, HB3⟩
      case measure => simp [intOf]; omega
    · obtain rfl : k = 3 := by omega
      go_wp2_with fail
      obtain ⟨z, h1, h2⟩ := hx.out
      go_ret
      exact ⟨z, rfl, h1, h2, hb.out⟩

/-- how great numbers are, how long lists -/
structure Small (n : Nat) (t : TalkP) : Prop where
  wait : ∀ i k, i < 3 → k < 10 → ((t.hosts i).wait k).length ≤ 16
  sent : ∀ i k, i < 3 → k < 10 → (t.hosts i).sent k ≤ n
  came : ∀ i k, i < 3 → k < 10 → (t.hosts i).came k ≤ n
  known : ∀ k, k < 16 → 0 ≤ t.known k ∧ t.known k ≤ (n : Int)
  lsent : ∀ k, k < 16 → (t.sent k).length ≤ n
  lcame : ∀ k, k < 16 → (t.came k).length ≤ n
  way : t.way.length ≤ n
theorem three {i : Nat} {Bs : Nat → Nat} (hi : i < 3) : ((List.range 3).map fun i => Value.pointer (some ⟨Bs i, 0, none⟩))[i]? = some (.pointer (some ⟨Bs i, 0, none⟩)) := by
  have : i = 0 ∨ i = 1 ∨ i = 2 := by omega
  rcases this with rfl | rfl | rfl <;> rfl
theorem own_ptr {w : World} {base : Nat} {e : TypeId} {size n : Nat} {v : Value} {xs : List Value} (h : w.ownsRow base e size v n xs) (hn : 0 < n) : ∃ g c, v = .slice (some ⟨g, 0, none⟩) n c := by
  rcases h.2 with ⟨rfl, h0⟩ | ⟨g, cap, cur, rfl, _⟩
  · omega
  · exact ⟨g, cap, rfl⟩
theorem own_cellB {w : World} {S : Nat} {e : TypeId} {size n g cap : Nat} {xs : List Value} (h : w.ownsRow S e size (.slice (some ⟨g, 0, none⟩) n cap) n xs) {i : Nat} {u : Value} (hu : xs[i]? = some u) : w.cell? ⟨g, 0 + i * 1, none⟩ = some u := by
  rw [Nat.zero_add, Nat.mul_one]; exact own_cell h hu
theorem sendT_fin {t : TalkP} {z z1 : Nat → Nat} {w V w9 : World} {T q n : Nat} {hv wv : Value} {sv cv : Nat → Value} {Bs : Nat → Nat} {a a9 : Option Addr} {c k9 : Nat} {body : List UInt8} (hp : Parts 3 z1 V hv wv sv cv Bs t) (htc : TalkC z z1 w V) (hzT : z1 T = 0) (hq : q < 16) (hv1 : sv q = .slice a n c) (hn : (t.sent q).length = n)
    (hg : (V.alloc (.cells #[str body] 9)).drew.grownBy w9 (Value.slice a n c).ownBlock) (ho : w9.ownsRow 0 9 1 (.slice a9 (n + 1) k9) (n + 1) ((t.sent q).flatMap rowS ++ [str body]))
    (hb : ∀ g, (Value.slice a9 (n + 1) k9).ownBlock = some g → (Value.slice a n c).ownBlock = some g ∨ (V.alloc (.cells #[str body] 9)).drew.heap.size ≤ g) (hBV : V.heap[T]? = some (blkT hv wv sv cv t.known)) (hB : w9.heap[T]? = some (blkT hv wv sv cv t.known)) :
    ∃ z', TalkX 3 z' (w9.setCell ⟨T, 2 + q, none⟩ (.slice a9 (n + 1) k9)) T { t with sent := upd t.sent q (t.sent q ++ [body]) } ∧ TalkC z z' w (w9.setCell ⟨T, 2 + q, none⟩ (.slice a9 (n + 1) k9)) := by
  have hpa : Parts 3 z1 (V.alloc (.cells #[str body] 9)).drew hv wv sv cv Bs t := hp.agree ((Agree.alloc _ V _).trans (Agree.drew _ _))
  have hsz : (V.alloc (.cells #[str body] 9)).drew.heap.size = V.heap.size + 1 := by simp
  have hl : (t.sent q ++ [body]).length = n + 1 := by rw [List.length_append, hn]; rfl
  obtain ⟨hp2, hc2⟩ := hpa.putSent hq (v := .slice a9 (n + 1) k9) (l := t.sent q ++ [body]) (w' := w9) (by rw [hv1]; exact hg) (by rw [hl, List.flatMap_append]; exact ho) (fun g e => by rw [hv1]; exact hb g e)
  have hTlt : T < (V.alloc (.cells #[str body] 9)).drew.heap.size := by have := lt_of_block hBV; omega
  have hz2 : zon z1 (V.alloc (.cells #[str body] 9)).drew.heap.size 6 T = 0 := by rw [zon_low hTlt]; exact hzT
  have hc3 : Chg (fun g => zon z1 (V.alloc (.cells #[str body] 9)).drew.heap.size 6 g = 0) w9 (w9.setCell ⟨T, 2 + q, none⟩ (.slice a9 (n + 1) k9)) := Chg.setCell w9 hz2 _
  refine ⟨_, ⟨⟨hv, wv, _, cv, Bs, ?_, hp2.chg0 hc3⟩, hz2⟩, ?_⟩
  · rw [blkT_set hB, cellsT_setSent _ _ _ _ _ hq]
  · refine htc.trans (TalkC.trans (z2 := z1) ?_ (TalkC.trans (TalkC.of (by omega) hc2) (TalkC.same (by omega) hc3)))
    exact ⟨(Chg.alloc _ V _).trans (Chg.drew _ _), fun g h => Or.inl h⟩

set_option maxHeartbeats 8000000 in
set_option maxRecDepth 100000 in
theorem sendT_law (t : TalkP) (i j : Nat) (body : List UInt8) (z : Nat → Nat) (w : World) (T : Nat) (h : TalkX 3 z w T t) (hs : Small 1073741824 t) (hi : i < 3) (hj : j < 3) :
    Calls Try.prog 26 #[.pointer (some ⟨T, 0, none⟩), .int .i64 i, .int .i64 j, str body] w fun e w' => e = .returned (.bool (sendT t i j body).2) ∧ ∃ z', TalkX 3 z' w' T (sendT t i j body).1 ∧ TalkC z z' w w' := by
  obtain ⟨⟨hv, wv, sv, cv, Bs, hblk, hp⟩, hz⟩ := h
  obtain ⟨hg, hc, rfl⟩ := own_ptr hp.hosts.1 (by decide)
  have KS := Lib.hid (send_law (t.hosts i) ((j : Int) + 1) body (fun g => z g = 2 + i) w (Bs i) (hp.rel i hi) (fun k hk => hs.wait i k hi hk) (fun k hk => Nat.le_trans (hs.sent i k hi hk) (by decide)))
  have c0 := cell_n hblk 0 (cellsT_hosts _ _ _ _ _)
  have e0 := own_cell hp.hosts.1 (three hi)
  obtain ⟨q, hq⟩ : ∃ q : Nat, q = 4 * i + j := ⟨_, rfl⟩
  have hcast : 4 * (i : Int) + (j : Int) = (q : Int) := by omega
  have hat : q < 16 := by omega
  have hkn := hs.known q hat
  have hls := hs.lsent q hat
  obtain ⟨r1, hr1⟩ := hide (sendP (t.hosts i) ((j : Int) + 1) body).1
  obtain ⟨e1, he1⟩ := hide (sendP (t.hosts i) ((j : Int) + 1) body).2
  rw [hr1.out, he1.out] at KS
  have hT : sendT t i j body = (if 16 ≤ ((t.sent q).length : Int) - t.known q then ({ t with hosts := upd t.hosts i r1 }, e1 == 4) else ({ t with hosts := upd t.hosts i r1, sent := upd t.sent q (t.sent q ++ [body]) }, e1 == 0)) := by
    unfold sendT
    simp only [hr1.out, he1.out, hq]
  have Hblk := Lib.hid hblk
  have Hp := Lib.hid hp
  have HT := Lib.hid hT
  have i1 : (i : Int) < 3 := by omega
  clear hblk hp hs hT hq
  go_enter Try.func26, Try.ntmps26
  go_wp2_with fail
  refine KS.out.mono ?_
  rintro e w1 ⟨rfl, hr, hc1⟩
  have hTz : ¬ (z T = 2 + i) := by omega
  have hblk1 := hc1.at Hblk.out hTz
  have hp1 := Hp.out.putRel hi hr hc1
  obtain ⟨z1, hz1⟩ := hide (zon z w.heap.size (2 + i))
  rw [hz1.out] at hp1
  have hzT1 : z1 T = 0 := by rw [← hz1.out, zon_low (lt_of_block Hblk.out)]; exact hz
  have HTC1 : Hid (TalkC z z1 w w1) := by show TalkC _ _ _ _; rw [← hz1.out]; exact TalkC.of (by omega) hc1
  obtain ⟨a, c, hsv⟩ := owns_slice (hp1.sent.own q hat)
  have s1 := cell_n hblk1 (2 + q) (cellsT_sent _ _ _ _ _ hat)
  have k1 := cell_n hblk1 (34 + q) (cellsT_known _ _ _ _ _ hat)
  have g1 := free_n hblk1 (2 + q)
  have hsv' : sv q = .slice a (t.sent q).length c := hsv
  rw [hsv'] at s1
  have Hp1 := Lib.hid hp1
  have Hblk1 := Lib.hid hblk1
  have Hsv := Lib.hid hsv'
  obtain ⟨n, hn⟩ := hide (t.sent q).length
  have Hn := Lib.hid hn.out
  rw [hn.out] at s1 hls HT
  obtain ⟨kk, hkk⟩ := hide (t.known q)
  rw [hkk.out] at k1 hkn HT
  clear hr hc1 hblk1 hp1 hsv hsv' c0 e0
  go_upto_region 3 with fail
  obtain ⟨bq, hbq⟩ := hide (decide (16 ≤ (n : Int) - kk))
  go_cut [40] (fun s wx => s = .bool bq ∧ Hid (∃ o, wx = w1.drewN o))
  case first =>
    go_quiet (fail)
    go_wp2_with fail
    go_meet
    exact ⟨by rw [hbq.out], ⟨_, rfl⟩⟩
  case rest =>
    obtain ⟨V, hV⟩ : ∃ V, V = wc := ⟨_, rfl⟩
    subst hV
    obtain ⟨rfl, hn⟩ := hcut
    obtain ⟨o, ho⟩ := hn.out
    have HpV : Hid (Parts 3 z1 V (.slice (some ⟨hg, 0, none⟩) 3 hc) wv sv cv Bs { t with hosts := upd t.hosts i r1 }) := by show Parts _ _ _ _ _ _ _ _ _; rw [ho]; exact Hp1.out.agree (Agree.drewN _ w1 o)
    have HbV : Hid (V.heap[T]? = some (blkT (.slice (some ⟨hg, 0, none⟩) 3 hc) wv sv cv t.known)) := by show _ = _; rw [ho]; exact Hblk1.out
    have HTCV : Hid (TalkC z z1 w V) := by show TalkC _ _ _ _; rw [ho]; exact ⟨HTC1.out.chg.trans (Chg.drewN _ w1 o), HTC1.out.own⟩
    have s2 : V.cell? ⟨T, 2 + q, none⟩ = some (.slice a n c) := by rw [ho]; exact s1
    have g2 : V.frozen? ⟨T, 2 + q, none⟩ = false := by rw [ho]; exact g1
    clear hn ho s1 k1 g1
    rcases Bool.eq_false_or_eq_true bq with hb | hb
    · subst hb
      have hfull : 16 ≤ (n : Int) - kk := of_decide_eq_true hbq.out
      have hT2 : sendT t i j body = ({ t with hosts := upd t.hosts i r1 }, e1 == 4) := by rw [HT.out, if_pos hfull]
      have HT2 := Lib.hid hT2
      clear hT2 hfull s2 g2
      go_wp2_with fail
      go_ret
      rw [HT2.out]
      exact ⟨rfl, z1, ⟨⟨_, _, _, _, _, HbV.out, HpV.out⟩, hzT1⟩, HTCV.out⟩
    · subst hb
      have hfull : ¬ 16 ≤ (n : Int) - kk := of_decide_eq_false hbq.out
      have hT2 : sendT t i j body = ({ t with hosts := upd t.hosts i r1, sent := upd t.sent q (t.sent q ++ [body]) }, e1 == 0) := by rw [HT.out, if_neg hfull]
      have HT2 := Lib.hid hT2
      have ho := HpV.out.sent.own q hat
      have hoq : V.ownsRow 0 9 1 (.slice a n c) n ((t.sent q).flatMap rowS) := by have h := ho; rw [Hsv.out] at h; rw [Hn.out] at h; exact h
      have HoA : Hid ((V.drew.alloc (.cells #[str body] 9)).ownsRow 0 9 1 (.slice a n c) n ((t.sent q).flatMap rowS)) := hoq.drew.alloc _
      have HsA : Hid (Src Try.prog 1 54 (.slice (some ⟨V.drew.heap.size, 0, none⟩) 1 1) 1 [str body] (V.drew.alloc (.cells #[str body] 9))) := src_new (w := V.drew) Try.underlying54 _ 1 rfl (rowS_one body)
      have hTlt := lt_of_block HbV.out
      have s3 : (V.alloc (.cells #[str body] 9)).cell? ⟨T, 2 + q, none⟩ = some (.slice a n c) := (World.cell?_of_block (hp_past V _ (by show T ≠ V.heap.size; omega))).trans s2
      have hTne : some T ≠ (Value.slice a n c).ownBlock := fun e => by
        have h1 := HpV.out.sent.foot q hat T (by rw [Hsv.out, Hn.out]; exact e.symm)
        omega
      have HBk : Hid (∀ w9 : World, (V.drew.alloc (.cells #[str body] 9)).grownBy w9 (Value.slice a n c).ownBlock → w9.heap[T]? = some (blkT (.slice (some ⟨hg, 0, none⟩) 3 hc) wv sv cv t.known)) := fun w9 hg => by
        rw [hg.block T (by simp; omega) hTne, hp_past _ _ (by show T ≠ V.heap.size; omega)]
        exact HbV.out
      have Hat := Lib.hid hat
      have hati : (q : Int) < 16 := by omega
      clear hT2 hfull ho hoq
      go_upto_region 5 with fail
      go_cut [53] (fun s wx => ∃ a9 k9, s = .slice a9 (n + 1) k9 ∧ Hid (∃ z', TalkX 3 z' wx T { t with hosts := upd t.hosts i r1, sent := upd t.sent q (t.sent q ++ [body]) } ∧ TalkC z z' w wx))
      case first =>
        go_region_law (refine step_append_at (by rfl) _ _ 54 54 (by rfl) 0 9 _ 1 16 Try.underlying54 info_str rfl _ _ _ (by rfl) HoA.out _ 1 _ (by rfl) HsA.out (by unfold maxLen; omega) (by omega) (Nat.zero_le _) ?_; intro v9 w9 ho9 hg9 hb9; obtain ⟨a9, k9, rfl⟩ := owns_slice ho9; have hB9 := HBk.out _ hg9; have d2 := cell_n hB9 (2 + q) (cellsT_sent _ _ _ _ _ hat); have g3 := free_n hB9 (2 + q); have Ho9 := Lib.hid ho9; have Hg9 := Lib.hid hg9; have Hb9 := Lib.hid hb9; have HB9 := Lib.hid hB9; clear ho9 hg9 hb9 hB9)
        all_goals
          have HA := Lib.hid (sendT_fin HpV.out HTCV.out hzT1 Hat.out (Hsv.out.trans (by rw [Hn.out])) Hn.out Hg9.out Ho9.out Hb9.out HbV.out HB9.out)
          clear d2 g3 s2 s3 g2
          go_wp2_with fail
          go_meet
          exact ⟨_, _, rfl, HA.out⟩
      case rest =>
        obtain ⟨a9, k9, rfl, hfin⟩ := hcut
        go_wp2_with fail
        go_ret
        rw [HT2.out]
        exact ⟨rfl, hfin.out⟩
end Go.Proofs.Ytckclacdmpcpbaa
