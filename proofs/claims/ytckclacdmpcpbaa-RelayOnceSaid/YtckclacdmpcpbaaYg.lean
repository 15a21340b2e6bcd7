/-
  Three hosts that talk: a packet that is taken off what is on its way.
-/
import Derived.Test.YtckclacdmpcpbaaYf
namespace Go.Proofs.Ytckclacdmpcpbaa
open Go.RowKit Wm Mm Rl
set_option linter.unusedVariables false
set_option linter.unusedSimpArgs false

theorem own_drop_src {w : World} {g n c k : Nat} {l : List PktP} (h : w.ownsRow 0 34 5 (.slice (some ⟨g, 0, none⟩) n c) n (l.flatMap rowP)) (hl : n = l.length) (hk : k < n) {av : Option Addr} (hav : (c = k + 1 ∧ av = some ⟨g, 0, none⟩) ∨ (c ≠ k + 1 ∧ av = some ⟨g, (k + 1) * 5, none⟩)) :
    Src Try.prog 5 28 (.slice av (n - (k + 1)) (c - (k + 1))) (n - (k + 1)) ((l.drop (k + 1)).flatMap rowP) w := by
  obtain ⟨hnc, hcm, _, _⟩ := own_lt h
  have hfl : OwnP w (.slice (some ⟨g, 0, none⟩) l.length c) l := by show w.ownsRow _ _ _ _ _ _; rw [← hl]; exact h
  obtain ⟨av2, hpa, hav2⟩ := sl_part (Sl.own rowP rowP_len hfl (fun _ _ => rfl) (F := fun _ => True) (fun _ _ _ _ => trivial)) (p := k + 1) (n := n - (k + 1)) (by omega)
  have hdm : (l.drop (k + 1)).take (n - (k + 1)) = l.drop (k + 1) := List.take_of_length_le (by rw [List.length_drop]; omega)
  have hdl : (l.drop (k + 1)).length = n - (k + 1) := by rw [List.length_drop]; omega
  have he : av2 = av := by
    rcases hav2 with ⟨e, _⟩ | ⟨a, e, ⟨h1, _, h3⟩ | ⟨h1, h3⟩⟩
    · cases e
    · injection e with e; subst e
      rcases hav with ⟨_, h4⟩ | ⟨h4, _⟩
      · rw [h3, h4]
      · exact absurd h1 h4
    · injection e with e; subst e
      rcases hav with ⟨h4, _⟩ | ⟨_, h4⟩
      · exact absurd h4 h1
      · rw [h3, h4]; unfold Addr.add; split <;> simp_all
  subst he
  rw [hdm, ← hdl] at hpa
  have := src_sl (P := Try.prog) (tx := 28) rowP Try.underlying28 (by decide) rowP_len rowP_one hpa
  rw [hdl] at this
  exact this
theorem setFrom_chg {F : Nat → Prop} {b : Nat} (hb : F b) : ∀ (vs : List Value) (w : World) (i : Nat), Chg F w (setFrom w b i vs)
  | [], w, _ => Chg.refl F w
  | v :: vs, w, i => (Chg.setCell w (a := ⟨b, i, none⟩) hb v).trans (setFrom_chg hb vs _ _)
/-- blocks from n on are of no zone -/
def clip (z : Nat → Nat) (n : Nat) : Nat → Nat := zon z n 8
theorem TalkX.clip {m : Nat} {z : Nat → Nat} {w : World} {T : Nat} {t : TalkP} (h : TalkX m z w T t) : TalkX m (clip z w.heap.size) w T t := by
  obtain ⟨⟨hv, wv, sv, cv, Bs, h1, h2⟩, h3⟩ := h
  have hc : Chg (fun g => z g = 8) w w := Chg.refl _ _
  have hle := h2.le
  refine ⟨⟨hv, wv, sv, cv, Bs, h1, ⟨h2.le, rez_own h2.hosts.1 h2.hosts.2 hc (by omega), fun i hi => rez_rel (h2.rel i hi) hc (by omega), rez_own h2.way.1 h2.way.2 hc (by omega), rez_fam h2.sent hc (by omega), rez_fam h2.came hc (by omega)⟩⟩, ?_⟩
  show zon _ _ _ _ = _
  rw [zon_low (lt_of_block h1)]; exact h3
theorem TalkC.clip (z : Nat → Nat) (w : World) : TalkC z (clip z w.heap.size) w w := ⟨Chg.refl _ _, fun g hg => by
  rcases Nat.lt_or_ge g w.heap.size with h | h
  · exact Or.inl (by have h2 : zon z w.heap.size 8 g ≤ 7 := hg; rw [zon_low h] at h2; exact h2)
  · exact Or.inr h⟩
theorem TalkX.keep {m : Nat} {z : Nat → Nat} {w w' : World} {T : Nat} {t : TalkP} (h : TalkX m z w T t) (ha : Agree (fun g => z g ≤ 7) w w') : TalkX m z w' T t := by
  obtain ⟨⟨hv, wv, sv, cv, Bs, h1, h2⟩, h3⟩ := h
  exact ⟨⟨hv, wv, sv, cv, Bs, (ha.2 T (by show z T ≤ 7; omega) (lt_of_block h1)).trans h1, h2.agree (ha.sub (fun g hg => hg.2))⟩, h3⟩
theorem off_fin {t : TalkP} {z : Nat → Nat} {V w8 w9 : World} {T k : Nat} {hv wv : Value} {sv cv : Nat → Value} {Bs : Nat → Nat} {a8 a9 : Option Addr} {c8 c9 m8 m9 : Nat} {xs : List Value} (hp : Parts 3 z V hv wv sv cv Bs t) (hz : z T = 0) (hB : V.heap[T]? = some (blkT hv wv sv cv t.known))
    (hg8 : V.drew.grownBy w8 (Value.slice none 0 0).ownBlock) (ho8 : w8.ownsRow V.heap.size 34 5 (.slice a8 m8 c8) m8 xs) (hg9 : w8.grownBy w9 (Value.slice a8 m8 c8).ownBlock) (ho9 : w9.ownsRow V.heap.size 34 5 (.slice a9 m9 c9) m9 ((t.way.eraseIdx k).flatMap rowP)) (hm9 : m9 = (t.way.eraseIdx k).length) :
    TalkX 3 (zon z V.heap.size 5) (w9.setCell ⟨T, 1, none⟩ (.slice a9 m9 c9)) T { t with way := t.way.eraseIdx k } ∧ TalkC z (zon z V.heap.size 5) V (w9.setCell ⟨T, 1, none⟩ (.slice a9 m9 c9)) := by
  have hb8 : Below V.heap.size V w8 := ⟨hg8.os, hg8.tape, hg8.output, hg8.size, fun j hj => hg8.block j hj (by simp [Value.ownBlock])⟩
  have hb9 : Below V.heap.size V w9 := hb8.trans ⟨hg9.os, hg9.tape, hg9.output, hg9.size, fun j hj => hg9.block j (by have := hb8.size; omega) (fun e => by have := (ho8.lt j e.symm).1; omega)⟩
  subst hm9
  have hTlt := lt_of_block hB
  have hB9 := (hb9.block T hTlt).trans hB
  have hp2 := hp.putWay (w' := w9) (l := t.way.eraseIdx k) (own_base ho9 (Nat.zero_le _)) (fun g hg => Or.inr (ho9.lt g hg).1) (Chg.fresh _ hb9)
  have hz2 : zon z V.heap.size 5 T = 0 := by rw [zon_low hTlt]; exact hz
  have hc3 : Chg (fun g => zon z V.heap.size 5 g = 0) w9 (w9.setCell ⟨T, 1, none⟩ (.slice a9 (t.way.eraseIdx k).length c9)) := Chg.setCell w9 hz2 _
  refine ⟨⟨⟨hv, _, sv, cv, Bs, ?_, hp2.chg0 hc3⟩, hz2⟩, (TalkC.of (d := 5) (by omega) (Chg.fresh _ hb9)).trans (TalkC.same (by omega) hc3)⟩
  rw [blkT_set hB9, cellsT_setWay]

theorem off_keep {V w8 w9 : World} {T R : Nat} {o oR oP : Obj} {a8 : Option Addr} {c8 m8 : Nat} {xs : List Value} (hB : V.heap[T]? = some o) (hs : V.heap.size = R + 2) (hT : T < R)
    (hg8 : V.drew.grownBy w8 (Value.slice none 0 0).ownBlock) (ho8 : w8.ownsRow V.heap.size 34 5 (.slice a8 m8 c8) m8 xs) (hg9 : w8.grownBy w9 (Value.slice a8 m8 c8).ownBlock) (hR : V.heap[R]? = some oR) (hP : V.heap[R + 1]? = some oP) (v : Value) :
    Hid ((w9.setCell ⟨T, 1, none⟩ v).heap[R]? = some oR) ∧ Hid ((w9.setCell ⟨T, 1, none⟩ v).heap[R + 1]? = some oP) := by
  have hb8 : Below V.heap.size V w8 := ⟨hg8.os, hg8.tape, hg8.output, hg8.size, fun j hj => hg8.block j hj (by simp [Value.ownBlock])⟩
  have hb9 : Below V.heap.size V w9 := hb8.trans ⟨hg9.os, hg9.tape, hg9.output, hg9.size, fun j hj => hg9.block j (by have := hb8.size; omega) (fun e => by have := (ho8.lt j e.symm).1; omega)⟩
  exact ⟨hp_set_other ((hb9.block R (by omega)).trans hR) (by show T ≠ R; omega), hp_set_other ((hb9.block (R + 1) (by omega)).trans hP) (by show T ≠ R + 1; omega)⟩
set_option maxHeartbeats 8000000 in
set_option maxRecDepth 100000 in
theorem off_law (t : TalkP) (k : Nat) (z : Nat → Nat) (w : World) (T : Nat) (h : TalkX 3 z w T t) (hk : k < t.way.length) (hw : t.way.length ≤ 1073741824) :
    Calls Try.prog 29 #[.pointer (some ⟨T, 0, none⟩), .int .i64 k] w fun e w' => e = .returned (.agg #[.int .i64 t.way[k].frm, .int .i64 t.way[k].to, .int .i64 t.way[k].num, .bool t.way[k].ack, str t.way[k].body]) ∧ ∃ z', TalkX 3 z' w' T { t with way := t.way.eraseIdx k } ∧ TalkC z z' w w' := by
  obtain ⟨post, HP⟩ := hide (fun (e : Ending) (w' : World) => e = .returned (.agg #[.int .i64 t.way[k].frm, .int .i64 t.way[k].to, .int .i64 t.way[k].num, .bool t.way[k].ack, str t.way[k].body]) ∧ ∃ z', TalkX 3 z' w' T { t with way := t.way.eraseIdx k } ∧ TalkC z z' w w')
  rw [HP.out]
  obtain ⟨y, hy⟩ := hide t.way[k]
  rw [hy.out] at HP
  have HCl := Lib.hid (TalkC.clip z w)
  have hcl := h.clip
  have hz8 : ∀ g, w.heap.size ≤ g → clip z w.heap.size g = 8 := fun g hg => zon_new hg
  obtain ⟨zc, hzc⟩ := hide (clip z w.heap.size)
  rw [hzc.out] at HCl hcl hz8
  have Hz8 := Lib.hid hz8
  clear hz8 h hzc
  have h := hcl
  clear hcl
  obtain ⟨R, hR⟩ := hide w.heap.size
  obtain ⟨W, hW⟩ := hide (w.alloc (.cells #[.int .i64 0, .int .i64 0, .int .i64 0, .bool false, .string ⟨#[]⟩] 34))
  have HbW : Hid (Below w.heap.size w W) := by show Below _ _ _; rw [← hW.out]; exact (Below.refl _ _).alloc (Nat.le_refl _) _
  have HsW : Hid (W.heap.size = R + 1) := by show _ = _; rw [← hW.out, ← hR.out]; simp
  have hXW := h.new HbW.out
  obtain ⟨V, hV⟩ := hide (W.alloc (.cells #[.int .i64 y.frm, .int .i64 y.to, .int .i64 y.num, .bool y.ack, str y.body] 34))
  have HbV : Hid (Below W.heap.size W V) := by show Below _ _ _; rw [← hV.out]; exact (Below.refl _ _).alloc (Nat.le_refl _) _
  have HTR : Hid (T < R) := by show _ < _; rw [← hR.out]; obtain ⟨⟨_, _, _, _, _, hb, _⟩, _⟩ := h; exact lt_of_block hb
  obtain ⟨⟨hv, wv, sv, cv, Bs, hblk0, hp0⟩, hz⟩ := hXW
  obtain ⟨g, c, rfl⟩ := own_ptr hp0.way.1 (by omega)
  obtain ⟨n, hn⟩ := hide t.way.length
  have Hn := Lib.hid hn.out
  have c1 := cell_n hblk0 1 (cellsT_way _ _ _ _ _)
  rw [hn.out] at c1 hw
  have hkn : k < n := by rw [← hn.out]; exact hk
  have hown : W.ownsRow 0 34 5 (.slice (some ⟨g, 0, none⟩) n c) n (t.way.flatMap rowP) := by have h := hp0.way.1; rw [← hn.out]; exact h
  obtain ⟨u0, u1, u2, u3, u4⟩ := ownP_five hown (k := k) hk
  rw [hy.out] at u0 u1 u2 u3 u4
  obtain ⟨hnc, hcm, _, _⟩ := own_lt hown
  have HblkV : Hid (V.heap[T]? = some (blkT hv (.slice (some ⟨g, 0, none⟩) n c) sv cv t.known)) := by show _ = _; rw [← hn.out]; exact (HbV.out.block T (lt_of_block hblk0)).trans hblk0
  have HpV : Hid (Parts 3 zc V hv (.slice (some ⟨g, 0, none⟩) n c) sv cv Bs t) := by show Parts _ _ _ _ _ _ _ _ _; rw [← hn.out]; exact hp0.new HbV.out
  have HoV : Hid (V.ownsRow 0 34 5 (.slice (some ⟨g, 0, none⟩) n c) n (t.way.flatMap rowP)) := own_below hown HbV.out
  have HRV : Hid (V.heap[R]? = some (.cells #[.int .i64 0, .int .i64 0, .int .i64 0, .bool false, .string ⟨#[]⟩] 34 (0, 0))) := by show _ = _; rw [← hV.out, ← hW.out, ← hR.out]; exact (hp_past _ _ (by simp)).trans (hp_at _ _ rfl)
  have HPV : Hid (V.heap[R + 1]? = some (blkP y)) := by show _ = _; rw [← hV.out]; exact hp_at _ _ HsW.out.symm
  have HsV : Hid (V.heap.size = R + 2) := by show _ = _; rw [← hV.out, World.size_alloc, HsW.out]
  have HTC : Hid (TalkC z zc w V) := HCl.out.trans ((TalkC.new zc HbW.out).trans (TalkC.new zc HbV.out))
  have hki : (k : Int) < (n : Int) := by omega
  clear hblk0 hp0 hown
  go_enter Try.func29, Try.ntmps29
  go_upto_region 1 with fail
  rw [hW.out, hR.out]
  go_upto_region 2 with fail
  rw [hV.out, HsW.out]
  clear c1 u0 u1 u2 u3 u4
  have e1 := cell_n HblkV.out 1 (cellsT_way _ _ _ _ _)
  have HoT : Hid (V.drew.ownsRow V.heap.size 34 5 (.slice none 0 0) 0 []) := World.ownsRow_nil _ _ _ _
  have HsT : Hid (Src Try.prog 5 28 (.slice (some ⟨g, 0, none⟩) k c) k ((t.way.take k).flatMap rowP) V.drew) := by
    have h1 := own_take HoV.out (k := k) (by omega)
    rw [rowP_take] at h1
    exact src_own Try.underlying28 h1.drew (fun u hu => by obtain ⟨p, _, hp⟩ := List.mem_flatMap.1 hu; exact rowP_one p u hp)
  have q1 : IntKind.i64.wrap ((k : Int) + 1) = (k : Int) + 1 := IntWalk.i64_in _ (by omega)
  have q2 : (0 : Int) ≤ (k : Int) + 1 := by omega
  have q3 : ((k : Int) + 1).toNat = k + 1 := by omega
  have q4 : (k : Int) + 1 ≤ (n : Int) := by omega
  have q5 : (n : Int) ≤ (c : Int) := by omega
  have q6 : (k : Int) ≤ (c : Int) := by omega
  have q7 : k ≤ c := by omega
  have HS8 : Hid (∀ w8 : World, V.drew.grownBy w8 (Value.slice none 0 0).ownBlock → w8.heap[T]? = some (blkT hv (.slice (some ⟨g, 0, none⟩) n c) sv cv t.known) ∧ w8.ownsRow 0 34 5 (.slice (some ⟨g, 0, none⟩) n c) n (t.way.flatMap rowP)) := fun w8 hg => by
    have hb : Below V.heap.size V w8 := ⟨hg.os, hg.tape, hg.output, hg.size, fun j hj => hg.block j hj (by simp [Value.ownBlock])⟩
    exact ⟨(hb.block T (lt_of_block HblkV.out)).trans HblkV.out, own_below HoV.out hb⟩
  have HS9 : Hid (∀ (w8 w9 : World) (a8 : Option Addr) (m8 c8 : Nat) (xs : List Value), V.drew.grownBy w8 (Value.slice none 0 0).ownBlock → w8.ownsRow V.heap.size 34 5 (.slice a8 m8 c8) m8 xs → w8.grownBy w9 (Value.slice a8 m8 c8).ownBlock → w9.heap[T]? = some (blkT hv (.slice (some ⟨g, 0, none⟩) n c) sv cv t.known)) := fun w8 w9 a8 m8 c8 xs hg ho hg' => by
    have h1 := (HS8.out w8 hg).1
    rw [hg'.block T (lt_of_block h1) (fun e => by have h2 := (ho.lt T e.symm).1; have h3 := lt_of_block HblkV.out; omega)]
    exact h1
  have Hkn := Lib.hid hkn
  have Hhw := Lib.hid hw
  have Her : Hid ((t.way.take k).flatMap rowP ++ (t.way.drop (k + 1)).flatMap rowP = (t.way.eraseIdx k).flatMap rowP) := by show _ = _; rw [List.eraseIdx_eq_take_drop_succ, List.flatMap_append]
  have Hel : Hid (k + (n - (k + 1)) = (t.way.eraseIdx k).length) := by show _ = _; rw [List.length_eraseIdx, if_pos hk, Hn.out]; omega
  go_cut [28] (fun s wx => ∃ a9 n9 c9, s = .slice a9 n9 c9 ∧ Hid (wx.heap[R]? = some (.cells #[.int .i64 0, .int .i64 0, .int .i64 0, .bool false, .string ⟨#[]⟩] 34 (0, 0))) ∧ Hid (wx.heap[R + 1]? = some (blkP y)) ∧ Hid (TalkX 3 (zon zc V.heap.size 5) wx T { t with way := t.way.eraseIdx k } ∧ TalkC zc (zon zc V.heap.size 5) V wx))
  case first =>
    by_cases hck : c = k + 1
    · obtain rfl : n = c := by omega
      subst hck
      have HX8 : Hid (∀ w8 : World, V.drew.grownBy w8 (Value.slice none 0 0).ownBlock → Src Try.prog 5 28 (.slice (some ⟨g, 0, none⟩) 0 0) 0 ((t.way.drop (k + 1)).flatMap rowP) w8) := fun w8 hg => by
        have h := own_drop_src (HS8.out w8 hg).2 Hn.out.symm Hkn.out (av := some ⟨g, 0, none⟩) (Or.inl ⟨rfl, rfl⟩)
        rw [Nat.sub_self] at h
        exact h
      rw [Nat.sub_self, Nat.add_zero] at Hel
      have q8 : (k : Int) ≤ (k : Int) + 1 := by omega
      clear hnc hcm hkn hw hki
      go_region_law (first
        | (refine step_append_at (by rfl) _ _ 28 28 (by rfl) V.heap.size 34 _ 5 48 Try.underlying28 info_pkt rfl _ _ _ (by rfl) HoT.out _ k _ (by rfl) HsT.out (by have := Hkn.out; have := Hhw.out; unfold maxLen; omega) (by have := Hkn.out; have := Hhw.out; omega) (Nat.le_refl _) ?_; intro v8 w8 ho8 hg8 hb8; rw [Nat.zero_add, List.nil_append] at ho8; obtain ⟨a8, c8, rfl⟩ := owns_slice ho8; have d1 := cell_n (HS8.out w8 hg8).1 1 (cellsT_way _ _ _ _ _); have HX := Lib.hid (HX8.out w8 hg8); have Ho8 := Lib.hid ho8; have Hg8 := Lib.hid hg8; clear ho8 hg8 hb8)
        | (refine step_append_at (by rfl) _ _ 28 28 (by rfl) V.heap.size 34 _ 5 48 Try.underlying28 info_pkt rfl _ _ _ (by rfl) Ho8.out _ 0 _ (by rfl) HX.out (by have := Hkn.out; have := Hhw.out; unfold maxLen; omega) (by have := Hkn.out; have := Hhw.out; omega) (Hg8.out.size) ?_; intro v9 w9 ho9 hg9 hb9; rw [Nat.add_zero] at ho9; obtain ⟨a9, c9, rfl⟩ := owns_slice ho9; have Ho9 := Lib.hid ho9; have Hg9 := Lib.hid hg9; have hB9 := HS9.out w8 w9 _ _ _ _ Hg8.out Ho8.out hg9; have d2 := cell_n hB9 1 (cellsT_way _ _ _ _ _); have g2 := free_n hB9 1; clear ho9 hg9 hb9 hB9))
      all_goals
        have HA := Lib.hid (off_fin (k := k) HpV.out hz HblkV.out Hg8.out Ho8.out Hg9.out (by rw [← Her.out]; exact Ho9.out) Hel.out)
        have HK := Lib.hid (off_keep HblkV.out HsV.out HTR.out Hg8.out Ho8.out Hg9.out HRV.out HPV.out (.slice a9 k c9))
        clear d1 d2 g2
        go_wp2_with fail
        go_meet
        exact ⟨_, _, _, rfl, HK.out.1, HK.out.2, HA⟩
    · have HX8 : Hid (∀ w8 : World, V.drew.grownBy w8 (Value.slice none 0 0).ownBlock → Src Try.prog 5 28 (.slice (some ⟨g, (k + 1) * 5, none⟩) (n - (k + 1)) (c - (k + 1))) (n - (k + 1)) ((t.way.drop (k + 1)).flatMap rowP) w8) := fun w8 hg => own_drop_src (HS8.out w8 hg).2 Hn.out.symm Hkn.out (Or.inr ⟨hck, rfl⟩)
      clear hnc hcm hkn hw hki
      go_region_law (first
        | (refine step_append_at (by rfl) _ _ 28 28 (by rfl) V.heap.size 34 _ 5 48 Try.underlying28 info_pkt rfl _ _ _ (by rfl) HoT.out _ k _ (by rfl) HsT.out (by have := Hkn.out; have := Hhw.out; unfold maxLen; omega) (by have := Hkn.out; have := Hhw.out; omega) (Nat.le_refl _) ?_; intro v8 w8 ho8 hg8 hb8; rw [Nat.zero_add, List.nil_append] at ho8; obtain ⟨a8, c8, rfl⟩ := owns_slice ho8; have d1 := cell_n (HS8.out w8 hg8).1 1 (cellsT_way _ _ _ _ _); have HX := Lib.hid (HX8.out w8 hg8); have Ho8 := Lib.hid ho8; have Hg8 := Lib.hid hg8; clear ho8 hg8 hb8)
        | (refine step_append_at (by rfl) _ _ 28 28 (by rfl) V.heap.size 34 _ 5 48 Try.underlying28 info_pkt rfl _ _ _ (by rfl) Ho8.out _ (n - (k + 1)) _ (by rfl) HX.out (by have := Hkn.out; have := Hhw.out; unfold maxLen; omega) (by have := Hkn.out; have := Hhw.out; omega) (Hg8.out.size) ?_; intro v9 w9 ho9 hg9 hb9; obtain ⟨a9, c9, rfl⟩ := owns_slice ho9; have Ho9 := Lib.hid ho9; have Hg9 := Lib.hid hg9; have hB9 := HS9.out w8 w9 _ _ _ _ Hg8.out Ho8.out hg9; have d2 := cell_n hB9 1 (cellsT_way _ _ _ _ _); have g2 := free_n hB9 1; clear ho9 hg9 hb9 hB9))
      all_goals
        have HA := Lib.hid (off_fin (k := k) HpV.out hz HblkV.out Hg8.out Ho8.out Hg9.out (by rw [← Her.out]; exact Ho9.out) Hel.out)
        have HK := Lib.hid (off_keep HblkV.out HsV.out HTR.out Hg8.out Ho8.out Hg9.out HRV.out HPV.out (.slice a9 (k + (n - (k + 1))) c9))
        clear d1 d2 g2
        go_wp2_with fail
        go_meet
        exact ⟨_, _, _, rfl, HK.out.1, HK.out.2, HA⟩
  case rest =>
    obtain ⟨a9, n9, c9, rfl, hR9, hP9, hX9⟩ := hcut
    have y0 := cell_n hP9.out 0 (v := .int .i64 y.frm) rfl
    have y1 := cell_n hP9.out 1 (v := .int .i64 y.to) rfl
    have y2 := cell_n hP9.out 2 (v := .int .i64 y.num) rfl
    have y3 := cell_n hP9.out 3 (v := .bool y.ack) rfl
    have y4 := cell_n hP9.out 4 (v := str y.body) rfl
    have z0 := cell_n hR9.out 0 (v := .int .i64 0) rfl
    have z1 := cell_n hR9.out 1 (v := .int .i64 0) rfl
    have z2 := cell_n hR9.out 2 (v := .int .i64 0) rfl
    have z3 := cell_n hR9.out 3 (v := .bool false) rfl
    have z4 := cell_n hR9.out 4 (v := .string ⟨#[]⟩) rfl
    have f0 := free_n hR9.out 0
    have f1 := free_n hR9.out 1
    have f2 := free_n hR9.out 2
    have f3 := free_n hR9.out 3
    have f4 := free_n hR9.out 4
    clear e1 q1 q2 q3 q4 q5 q6 q7
    have HE : Hid ((setAll wc R [.int .i64 y.frm, .int .i64 y.to, .int .i64 y.num, .bool y.ack, str y.body]).heap[R]? = some (blkP y)) := setAll_at (xs := [.int .i64 0, .int .i64 0, .int .i64 0, .bool false, .string ⟨#[]⟩]) hR9.out _ rfl
    have HF : Hid (∀ e, e = Ending.returned (.agg #[.int .i64 y.frm, .int .i64 y.to, .int .i64 y.num, .bool y.ack, str y.body]) → post e (setAll wc R [.int .i64 y.frm, .int .i64 y.to, .int .i64 y.num, .bool y.ack, str y.body])) := by
      intro e he
      rw [← HP.out]
      have hRw : w.heap.size ≤ R := by have h : w.heap.size = R := hR.out; omega
      have h8 : zon zc V.heap.size 5 R = 8 := by rw [zon_low (by have := HsV.out; omega)]; exact Hz8.out R hRw
      have hTC := HTC.out.trans hX9.out.2
      refine ⟨he, _, hX9.out.1.keep ⟨by rw [setFrom_size]; exact Nat.le_refl _, fun g hg _ => setFrom_other (fun e => by subst e; omega) _ _ 0⟩, ⟨⟨?_, ?_, ?_, ?_, fun g h1 h2 => ?_⟩, hTC.own⟩⟩
      · exact (setFrom_chg (F := fun g => g = R) rfl _ wc 0).os.trans hTC.chg.os
      · exact (setFrom_chg (F := fun g => g = R) rfl _ wc 0).tape.trans hTC.chg.tape
      · exact (setFrom_chg (F := fun g => g = R) rfl _ wc 0).output.trans hTC.chg.output
      · exact Nat.le_trans hTC.chg.size (setFrom_chg (F := fun g => g = R) rfl _ wc 0).size
      · exact ((setFrom_chg (F := fun g => g = R) rfl _ wc 0).block g (by have := hTC.chg.size; omega) (by omega)).trans (hTC.chg.block g h1 h2)
    go_wp2_with fail
    change bodyPost _ _ _ Exit.ret _ (setAll wc R [.int .i64 y.frm, .int .i64 y.to, .int .i64 y.num, .bool y.ack, str y.body])
    generalize setAll wc R [.int .i64 y.frm, .int .i64 y.to, .int .i64 y.num, .bool y.ack, str y.body] = W9 at HE HF ⊢
    clear y0 y1 y2 y3 y4 z0 z1 z2 z3 z4 f0 f1 f2 f3 f4
    have z0 := cell_n HE.out 0 (v := .int .i64 y.frm) rfl
    have z1 := cell_n HE.out 1 (v := .int .i64 y.to) rfl
    have z2 := cell_n HE.out 2 (v := .int .i64 y.num) rfl
    have z3 := cell_n HE.out 3 (v := .bool y.ack) rfl
    have z4 := cell_n HE.out 4 (v := str y.body) rfl
    refine bodyPost_ret (v := .agg #[.int .i64 y.frm, .int .i64 y.to, .int .i64 y.num, .bool y.ack, str y.body]) (by simp [results, Try.results29, go_sem, z0, z1, z2, z3, z4]) rfl ?_
    exact HF.out _ rfl
end Go.Proofs.Ytckclacdmpcpbaa
