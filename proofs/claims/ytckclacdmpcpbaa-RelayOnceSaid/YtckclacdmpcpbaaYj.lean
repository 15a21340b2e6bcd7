/-
  Three hosts that talk: a turn.
-/
import Derived.Test.YtckclacdmpcpbaaYi
namespace Go.Proofs.Ytckclacdmpcpbaa
open Go.RowKit Wm Mm Rl
set_option linter.unusedVariables false
set_option linter.unusedSimpArgs false

theorem Small.mono {n m : Nat} {t : TalkP} (h : Small n t) (hm : n ≤ m) : Small m t :=
  ⟨h.wait, fun i k hi hk => Nat.le_trans (h.sent i k hi hk) hm, fun i k hi hk => Nat.le_trans (h.came i k hi hk) hm, fun k hk => ⟨(h.known k hk).1, by have := (h.known k hk).2; omega⟩, fun k hk => Nat.le_trans (h.lsent k hk) hm, fun k hk => Nat.le_trans (h.lcame k hk) hm, Nat.le_trans h.way hm⟩
theorem pick3 (c : Int) (w : World) (hc : -9223372036854775808 ≤ c ∧ c ≤ 9223372036854775807) : Calls Try.prog 31 #[.int .i64 c, .int .i64 3] w fun e w' => e = .returned (.int .i64 (c % 3)) ∧ w = w' := pick_law c 3 w (by omega) (by omega) hc
theorem pick2 (c : Int) (w : World) (hc : -9223372036854775808 ≤ c ∧ c ≤ 9223372036854775807) : Calls Try.prog 31 #[.int .i64 c, .int .i64 2] w fun e w' => e = .returned (.int .i64 (c % 2)) ∧ w = w' := pick_law c 2 w (by omega) (by omega) hc
theorem pick6 (c : Int) (w : World) (hc : -9223372036854775808 ≤ c ∧ c ≤ 9223372036854775807) : Calls Try.prog 31 #[.int .i64 c, .int .i64 6] w fun e w' => e = .returned (.int .i64 (c % 6)) ∧ w = w' := pick_law c 6 w (by omega) (by omega) hc
def i64r (c : Int) : Prop := -9223372036854775808 ≤ c ∧ c ≤ 9223372036854775807
theorem fine_get {t : TalkP} (h : Inv t) {k : Nat} (hk : k < t.way.length) : Fine t t.way[k] := h.way _ (List.getElem_mem hk)
theorem fine_way {t : TalkP} {l : List PktP} {p : PktP} (h : Fine t p) : Fine { t with way := l } p := fine_mono (t := t) rfl (fun _ => Nat.le_refl _) h
theorem ok_erase {n : Nat} {t : TalkP} (h : Ok n t) (k : Nat) : Ok n { t with way := t.way.eraseIdx k } :=
  ok_way h (fun p hp => h.inv.way p (List.mem_of_mem_eraseIdx hp)) (Nat.le_trans (by rw [List.length_eraseIdx]; split <;> omega) h.way) (Nat.le_refl _)
theorem ok_packets {n : Nat} {t : TalkP} (h : Ok n t) {i : Nat} (hi : i < 3) : Ok (n + 160) { t with way := t.way ++ packetsP (t.hosts i) } :=
  ok_way h (fun p hp => (List.mem_append.1 hp).elim (h.inv.way p) (fine_packets h.inv hi p)) (by rw [List.length_append]; have := h.way; have := packets_len h.inv hi; omega) (by omega)
theorem ok_double {n : Nat} {t : TalkP} (h : Ok n t) {k : Nat} (hk : k < t.way.length) : Ok (n + 1) { t with way := t.way ++ [t.way[k]] } :=
  ok_way h (fun p hp => (List.mem_append.1 hp).elim (h.inv.way p) (fun e => by rw [List.mem_singleton] at e; rw [e]; exact fine_get h.inv hk)) (by rw [List.length_append]; have := h.way; simp; omega) (by omega)
abbrev dblW (W : World) (y : PktP) : World := W.drew.alloc (.cells #[.int .i64 y.frm, .int .i64 y.to, .int .i64 y.num, .bool y.ack, str y.body] 34)
theorem ownP_as {w : World} {g n cap : Nat} {l : List PktP} (h : w.ownsRow 0 34 5 (.slice (some ⟨g, 0, none⟩) n cap) n (l.flatMap rowP)) {k : Nat} (hk : k < l.length) (y : PktP) (hy : l[k] = y) :
    w.cell? ⟨g, k * 5, none⟩ = some (.int .i64 y.frm) ∧ w.cell? ⟨g, k * 5 + 1, none⟩ = some (.int .i64 y.to) ∧ w.cell? ⟨g, k * 5 + 2, none⟩ = some (.int .i64 y.num) ∧ w.cell? ⟨g, k * 5 + 3, none⟩ = some (.bool y.ack) ∧ w.cell? ⟨g, k * 5 + 4, none⟩ = some (str y.body) := by
  subst hy
  exact ownP_five h hk
theorem off_as (t : TalkP) (k : Nat) (z : Nat → Nat) (w : World) (T : Nat) (h : TalkX 3 z w T t) (hk : k < t.way.length) (hw : t.way.length ≤ 1073741824) (y : PktP) (hy : t.way[k] = y) :
    Calls Try.prog 29 #[.pointer (some ⟨T, 0, none⟩), .int .i64 k] w fun e w' => e = .returned (.agg #[.int .i64 y.frm, .int .i64 y.to, .int .i64 y.num, .bool y.ack, str y.body]) ∧ ∃ z', TalkX 3 z' w' T { t with way := t.way.eraseIdx k } ∧ TalkC z z' w w' := by
  subst hy
  exact off_law t k z w T h hk hw
set_option maxHeartbeats 8000000 in
set_option maxRecDepth 100000 in
theorem turn_law (t : TalkP) (n : Nat) (kd hst num : Int) (body : List UInt8) (z : Nat → Nat) (w : World) (T : Nat) (h : TalkX 3 z w T t) (ho : Ok n t) (hn : n ≤ 1073741000) (hkd : i64r kd) (hhst : i64r hst) (hnum : i64r num) :
    Calls Try.prog 27 #[.pointer (some ⟨T, 0, none⟩), .agg #[.int .i64 kd, .int .i64 hst, .int .i64 num, str body]] w fun e w' => e = .returned (.bool true) ∧ ∃ z' t', TalkX 3 z' w' T t' ∧ TalkC z z' w w' ∧ Ok (n + 160) t' := by
  obtain ⟨post, HP⟩ := hide (fun (e : Ending) (w' : World) => e = .returned (.bool true) ∧ ∃ z' t', TalkX 3 z' w' T t' ∧ TalkC z z' w w' ∧ Ok (n + 160) t')
  rw [HP.out]
  obtain ⟨W, hW⟩ := hide (w.alloc (.cells #[.int .i64 kd, .int .i64 hst, .int .i64 num, str body] 51))
  obtain ⟨X, hX⟩ := hide w.heap.size
  have HXW : Hid (W.heap[X]? = some (.cells #[.int .i64 kd, .int .i64 hst, .int .i64 num, str body] 51 (0, 0))) := by show _ = _; rw [← hW.out, ← hX.out]; exact hp_at _ _ rfl
  have HbW : Hid (Below w.heap.size w W) := by show Below _ _ _; rw [← hW.out]; exact (Below.refl _ _).alloc (Nat.le_refl _) _
  have HsW : Hid (W.heap.size = X + 1) := by show _ = _; rw [← hW.out, ← hX.out]; simp
  have hXW := (h.clip.new HbW.out).clip
  have HC0 : Hid (TalkC z (clip (clip z w.heap.size) W.heap.size) w W) := (TalkC.clip z w).trans ((TalkC.new _ HbW.out).trans (TalkC.clip _ W))
  have hz8 : ∀ g, w.heap.size ≤ g → clip (clip z w.heap.size) W.heap.size g = 8 := fun g hg => by
    unfold clip
    rcases Nat.lt_or_ge g W.heap.size with h | h
    · rw [zon_low h]; exact zon_new hg
    · exact zon_new h
  obtain ⟨zc, hzc⟩ := hide (clip (clip z w.heap.size) W.heap.size)
  rw [hzc.out] at HC0 hXW hz8
  rw [hX.out] at hz8
  have Hz8 := Lib.hid hz8
  have HX := Lib.hid hXW
  obtain ⟨⟨hv, wv, sv, cv, Bs, hblk, hp⟩, hz⟩ := hXW
  obtain ⟨hg, hc, rfl⟩ := own_ptr hp.hosts.1 (by decide)
  obtain ⟨aw, cw, hwv⟩ := owns_slice hp.way.1
  subst hwv
  have Ho := Lib.hid ho
  obtain ⟨m, hm⟩ := hide t.way.length
  have hmn : m ≤ n := by rw [← hm.out]; exact ho.way
  rw [hm.out] at hblk hp
  have x0 := cell_n HXW.out 0 (v := .int .i64 kd) rfl
  have x1 := cell_n HXW.out 1 (v := .int .i64 hst) rfl
  have x2 := cell_n HXW.out 2 (v := .int .i64 num) rfl
  have x3 := cell_n HXW.out 3 (v := str body) rfl
  have c0 := cell_n hblk 0 (cellsT_hosts _ _ _ _ _)
  have c1 := cell_n hblk 1 (cellsT_way _ _ _ _ _)
  have Hblk := Lib.hid hblk
  have Hp := Lib.hid hp
  have Hkd := Lib.hid hkd
  have Hhst := Lib.hid hhst
  have Hnum := Lib.hid hnum
  obtain ⟨i, hi⟩ : ∃ i : Nat, hst % 3 = (i : Int) := ⟨(hst % 3).toNat, by omega⟩
  obtain ⟨b, hb⟩ : ∃ b : Nat, num % 2 = (b : Int) := ⟨(num % 2).toNat, by omega⟩
  obtain ⟨j, hj⟩ : ∃ j : Nat, ((i : Int) + 1 + (b : Int)) % 3 = (j : Int) := ⟨(((i : Int) + 1 + (b : Int)) % 3).toNat, by omega⟩
  obtain ⟨kN, hk⟩ : ∃ k : Nat, kd % 6 = (k : Int) := ⟨(kd % 6).toNat, by omega⟩
  have hi3 : i < 3 := by omega
  have hj3 : j < 3 := by omega
  have hij : i ≠ j := by omega
  have hk6 : kN < 6 := by omega
  have hwr : IntKind.i64.wrap ((i : Int) + 1) = (i : Int) + 1 := IntWalk.i64_in _ (by omega)
  have hwr2 : IntKind.i64.wrap ((i : Int) + 1 + (b : Int)) = (i : Int) + 1 + (b : Int) := IntWalk.i64_in _ (by omega)
  have Hi := Lib.hid hi
  have Hb := Lib.hid hb
  have Hj := Lib.hid hj
  have Hk := Lib.hid hk
  have Hrg : Hid (-9223372036854775808 ≤ (i : Int) + 1 + (b : Int) ∧ (i : Int) + 1 + (b : Int) ≤ 9223372036854775807) := by show _ ∧ _; omega
  clear h ho hz8 hblk hp hkd hhst hnum hi hb hj hk
  go_enter Try.func27, Try.ntmps27
  go_upto_region 1 with fail
  rw [hW.out, hX.out]
  go_wp2_with fail
  refine (pick3 _ _ Hhst.out).mono ?_
  rintro e w1 ⟨rfl, rfl⟩
  rw [Hi.out]
  go_wp2_with fail
  refine (pick2 _ _ Hnum.out).mono ?_
  rintro e w1 ⟨rfl, rfl⟩
  rw [Hb.out]
  go_wp2_with fail
  refine (pick3 _ _ Hrg.out).mono ?_
  rintro e w1 ⟨rfl, rfl⟩
  rw [Hj.out]
  go_wp2_with fail
  refine (pick6 _ _ Hkd.out).mono ?_
  rintro e w1 ⟨rfl, rfl⟩
  rw [Hk.out]
  go_upto_region 5 with fail
  rcases (by omega : kN = 0 ∨ kN = 1 ∨ kN = 2 ∨ kN = 3 ∨ 4 ≤ kN) with h0 | h0 | h0 | h0 | h0
  · subst h0
    go_wp2_with fail
    refine (sendT_law t i j body zc _ T HX.out (Ho.out.small.mono (by omega)) hi3 hj3).mono ?_
    rintro e w1 ⟨rfl, z1, hx1, hc1⟩
    have HF : Hid (post (.returned (.bool (sendT t i j body).2)) w1) := by
      obtain ⟨h1, h2⟩ := ok_send Ho.out hi3 hj3 hij body
      show post _ _
      rw [← HP.out, h1]
      exact ⟨rfl, z1, _, hx1, HC0.out.trans hc1, h2.mono (by omega)⟩
    clear hx1 hc1
    go_wp2_with fail
    exact HF.out
  · subst h0
    have e0 := own_cell Hp.out.hosts.1 (three hi3)
    have hii : (i : Int) < 3 := by omega
    have KP := Lib.hid (packets_law (t.hosts i) (fun g => zc g = 2 + i) W (Bs i) (Hp.out.rel i hi3) (fun k hk => wait_le Ho.out.inv hi3))
    have hpl := packets_len Ho.out.inv hi3
    go_wp2_with fail
    refine KP.out.mono ?_
    rintro e w1 ⟨v1, rfl, ho1, hb1⟩
    obtain ⟨a1, k1, rfl⟩ := owns_slice ho1
    obtain ⟨l1, hl1⟩ := hide (packetsP (t.hosts i)).length
    have Hl1 := Lib.hid hl1.out
    rw [hl1.out] at ho1 hpl ⊢
    have HUb : Hid (w1.heap[T]? = some (blkT (.slice (some ⟨hg, 0, none⟩) 3 hc) (.slice aw m cw) sv cv t.known)) := (hb1.block T (lt_of_block Hblk.out)).trans Hblk.out
    have HUp := Lib.hid (Hp.out.new hb1)
    have HUc : Hid (TalkC z zc w w1) := HC0.out.trans (TalkC.new zc hb1)
    have HsW2 : Hid (Src Try.prog 5 28 (.slice a1 l1 k1) l1 ((packetsP (t.hosts i)).flatMap rowP) w1) := src_own Try.underlying28 ho1 (fun u hu => by obtain ⟨p, _, hp⟩ := List.mem_flatMap.1 hu; exact rowP_one p u hp)
    have HoW : Hid (w1.ownsRow 0 34 5 (.slice aw m cw) m (t.way.flatMap rowP)) := by have h := HUp.out.way.1; show World.ownsRow _ _ _ _ _ _ _; rw [← hm.out] at h ⊢; exact h
    have v1 := cell_n HUb.out 1 (cellsT_way _ _ _ _ _)
    clear ho1 hb1 c0 c1 e0
    go_wp2_with (at_builtin; refine wpList_append_at rfl _ _ 28 28 rfl 0 34 _ 5 48 Try.underlying28 info_pkt rfl _ _ _ rfl HoW.out _ _ _ rfl HsW2.out (by unfold maxLen; omega) (by omega) (Nat.zero_le _) ?_)
    intro v9 w9 ho9 hg9 hb9
    obtain ⟨a9, k9, rfl⟩ := owns_slice ho9
    have hTz5 : some T ≠ (Value.slice aw m cw).ownBlock := fun e => by have := HUp.out.way.2 T e.symm; omega
    have hB9 := (hg9.block T (lt_of_block HUb.out) hTz5).trans HUb.out
    have d1 := cell_n hB9 1 (cellsT_way _ _ _ _ _)
    have g1 := free_n hB9 1
    have HFin := Lib.hid (way_fin HUp.out HUc.out hz hm.out Hl1.out hg9 ho9 hb9 HUb.out)
    have HF : Hid (post (.returned (.bool true)) (w9.setCell ⟨T, 1, none⟩ (.slice a9 (m + l1) k9))) := by
      obtain ⟨z', h1, h2⟩ := HFin.out
      show post _ _
      rw [← HP.out]
      exact ⟨rfl, z', _, h1, h2, ok_packets Ho.out hi3⟩
    clear v1 ho9 hg9 hb9 hB9
    go_wp2_with fail
    exact HF.out
  all_goals
    rcases Nat.eq_zero_or_pos m with hm0 | hm0
    · have HF : Hid (post (.returned (.bool true)) W) := by
        show post _ _
        rw [← HP.out]
        exact ⟨rfl, zc, t, HX.out, HC0.out, Ho.out.mono (by omega)⟩
      subst hm0
      first
        | (subst h0; go_wp2_with fail; exact HF.out)
        | (rcases (by omega : kN = 4 ∨ kN = 5) with h5 | h5 <;> (subst h5; go_wp2_with fail; exact HF.out))
    obtain ⟨k, hk⟩ : ∃ k : Nat, num % (m : Int) = (k : Int) := ⟨(num % (m : Int)).toNat, by have := Int.emod_nonneg num (show (m : Int) ≠ 0 by omega); omega⟩
    have hkm : k < m := by have := Int.emod_lt_of_pos num (show 0 < (m : Int) by omega); omega
    have KPk : Hid (∀ w0, Calls Try.prog 31 #[.int .i64 num, .int .i64 m] w0 fun e w' => e = .returned (.int .i64 k) ∧ w0 = w') := by
      intro w0
      have h := pick_law num m w0 hm0 (by omega) Hnum.out
      rw [hk] at h
      exact h
    have hkw : k < t.way.length := by rw [hm.out]; exact hkm
    have hm0i : (0 : Int) < (m : Int) := by omega
    have Hkw := Lib.hid hkw
    clear hk
  · subst h0
    have HOd : Hid (Ok (n + 1) { t with way := t.way ++ [t.way[k]] }) := ok_double Ho.out hkw
    have how : W.ownsRow 0 34 5 (.slice aw m cw) m (t.way.flatMap rowP) := by have h := Hp.out.way.1; show World.ownsRow _ _ _ _ _ _ _; rw [← hm.out] at h ⊢; exact h
    obtain ⟨g, c, he⟩ := own_ptr how hm0
    injection he with he1 he2 he3
    subst he1 he3
    obtain ⟨y, hy⟩ := hide t.way[k]
    rw [hy.out] at HOd
    obtain ⟨u0, u1, u2, u3, u4⟩ := ownP_as how hkw y hy.out
    obtain ⟨yf, yt, yn, ya, yb⟩ := y
    simp only [] at u0 u1 u2 u3 u4
    have HbV : Hid (Below W.heap.size W (dblW W ⟨yf, yt, yn, ya, yb⟩)) := ((Below.refl _ _).drew).alloc (Nat.le_refl _) _
    have HoV : Hid ((dblW W ⟨yf, yt, yn, ya, yb⟩).ownsRow 0 34 5 (.slice (some ⟨g, 0, none⟩) m cw) m (t.way.flatMap rowP)) := own_below how HbV.out
    have HsV : Hid (Src Try.prog 5 28 (.slice (some ⟨W.heap.size, 0, none⟩) 1 1) 1 (rowP ⟨yf, yt, yn, ya, yb⟩) (dblW W ⟨yf, yt, yn, ya, yb⟩)) := src_new (w := W.drew) Try.underlying28 _ 1 rfl (rowP_one ⟨yf, yt, yn, ya, yb⟩)
    have HUb : Hid ((dblW W ⟨yf, yt, yn, ya, yb⟩).heap[T]? = some (blkT (.slice (some ⟨hg, 0, none⟩) 3 hc) (.slice (some ⟨g, 0, none⟩) m cw) sv cv t.known)) := (HbV.out.block T (lt_of_block Hblk.out)).trans Hblk.out
    have HUp := Lib.hid (Hp.out.new HbV.out)
    have HUc : Hid (TalkC z zc w (dblW W ⟨yf, yt, yn, ya, yb⟩)) := HC0.out.trans (TalkC.new zc HbV.out)
    have hTlt := lt_of_block Hblk.out
    have s3 : (W.alloc (.cells #[.int .i64 yf, .int .i64 yt, .int .i64 yn, .bool ya, str yb] 34)).cell? ⟨T, 1, none⟩ = some (.slice (some ⟨g, 0, none⟩) m cw) := (World.cell?_of_block (hp_past W _ (by show T ≠ W.heap.size; omega))).trans c1
    have hTz5 : some T ≠ (Value.slice (some ⟨g, 0, none⟩) m cw).ownBlock := fun e => by have := HUp.out.way.2 T e.symm; omega
    have HBk : Hid (∀ w9 : World, (dblW W ⟨yf, yt, yn, ya, yb⟩).grownBy w9 (Value.slice (some ⟨g, 0, none⟩) m cw).ownBlock → w9.heap[T]? = some (blkT (.slice (some ⟨hg, 0, none⟩) 3 hc) (.slice (some ⟨g, 0, none⟩) m cw) sv cv t.known)) := fun w9 hg => (hg.block T (lt_of_block HUb.out) hTz5).trans HUb.out
    have hkmi : (k : Int) < (m : Int) := by omega
    have hfl : ([⟨yf, yt, yn, ya, yb⟩] : List PktP).flatMap rowP = rowP ⟨yf, yt, yn, ya, yb⟩ := rfl
    have Hfl := Lib.hid hfl
    clear hfl how he2 hkw
    go_upto_region 11 with fail
    go_region_law (first
      | (go_simp; go_at_call 31; refine (KPk.out _).mono ?_; rintro e w5 ⟨rfl, rfl⟩)
      | (refine step_append_at (by rfl) _ _ 28 28 (by rfl) 0 34 _ 5 48 Try.underlying28 info_pkt rfl _ _ _ (by rfl) HoV.out _ 1 _ (by rfl) HsV.out (by unfold maxLen; omega) (by omega) (Nat.zero_le _) ?_; intro v9 w9 ho9 hg9 hb9; obtain ⟨a9, k9, rfl⟩ := owns_slice ho9; have hB9 := HBk.out _ hg9; have d2 := cell_n hB9 1 (cellsT_way _ _ _ _ _); have g3 := free_n hB9 1; have Ho9 := Lib.hid ho9; have Hg9 := Lib.hid hg9; have Hb9 := Lib.hid hb9; have HB9 := Lib.hid hB9; clear ho9 hg9 hb9 hB9))
    all_goals
      have HFin := Lib.hid (way_fin (al := [⟨yf, yt, yn, ya, yb⟩]) HUp.out HUc.out hz hm.out rfl Hg9.out (by rw [Hfl.out]; exact Ho9.out) Hb9.out HUb.out)
      have HF : Hid (post (.returned (.bool true)) (w9.setCell ⟨T, 1, none⟩ (.slice a9 (m + 1) k9))) := by
        obtain ⟨z', h1, h2⟩ := HFin.out
        show post _ _
        rw [← HP.out]
        exact ⟨rfl, z', _, h1, h2, HOd.out.mono (by omega)⟩
      clear d2 g3
      go_wp2_with fail
      exact HF.out
  · subst h0
    go_wp2_with fail
    refine (KPk.out _).mono ?_
    rintro e w1 ⟨rfl, rfl⟩
    go_wp2_with fail
    refine (off_law t k zc _ T HX.out Hkw.out (by rw [hm.out]; omega)).mono ?_
    rintro e w1 ⟨rfl, z1, hx1, hc1⟩
    have HF : Hid (post (.returned (.bool true)) w1) := by
      show post _ _
      rw [← HP.out]
      exact ⟨rfl, z1, _, hx1, HC0.out.trans hc1, (ok_erase Ho.out k).mono (by omega)⟩
    clear hx1 hc1
    go_wp2_with fail
    exact HF.out
  · have HFn : Hid (Fine t t.way[k]) := fine_get Ho.out.inv hkw
    obtain ⟨y, hy⟩ := hide t.way[k]
    rw [hy.out] at HFn
    have KO := Lib.hid (off_as t k zc W T HX.out hkw (by rw [hm.out]; omega) y hy.out)
    obtain ⟨yf, yt, yn, ya, yb⟩ := y
    obtain ⟨i2, j2, hi2, hj2, hij2, e1, e2, e3, e4⟩ := HFn.out
    simp only [] at e1 e2
    subst e1 e2
    have HOe : Hid (Ok (n + 1) { t with way := t.way.eraseIdx k }) := (ok_erase Ho.out k).mono (by omega)
    have HOc : Hid ((comesT { t with way := t.way.eraseIdx k } ⟨(i2 : Int) + 1, (j2 : Int) + 1, yn, ya, yb⟩).2 = true ∧ Ok (n + 1) (comesT { t with way := t.way.eraseIdx k } ⟨(i2 : Int) + 1, (j2 : Int) + 1, yn, ya, yb⟩).1) :=
      ok_comes HOe.out (fine_way HFn.out) (by have := (ok_erase Ho.out k).way; omega)
    clear e3 e4 c0 c1
    rcases (by omega : kN = 4 ∨ kN = 5) with h5 | h5
    all_goals
      subst h5
      go_wp2_with fail
      refine (KPk.out _).mono ?_
      rintro e w1 ⟨rfl, rfl⟩
      go_wp2_with fail
      refine KO.out.mono ?_
      rintro e w1 ⟨rfl, z1, hx1, hc1⟩
      obtain ⟨W2, hW2⟩ := hide (w1.alloc (.cells #[.int .i64 ((i2 : Int) + 1), .int .i64 ((j2 : Int) + 1), .int .i64 yn, .bool ya, str yb] 34))
      obtain ⟨R, hR⟩ := hide w1.heap.size
      have HR2 : Hid (W2.heap[R]? = some (blkP ⟨(i2 : Int) + 1, (j2 : Int) + 1, yn, ya, yb⟩)) := by show _ = _; rw [← hW2.out, ← hR.out]; exact hp_at _ _ rfl
      have Hb2 : Hid (Below w1.heap.size w1 W2) := by show Below _ _ _; rw [← hW2.out]; exact (Below.refl _ _).alloc (Nat.le_refl _) _
      have y0 := cell_n HR2.out 0 (v := .int .i64 ((i2 : Int) + 1)) rfl
      have y1 := cell_n HR2.out 1 (v := .int .i64 ((j2 : Int) + 1)) rfl
      have y2 := cell_n HR2.out 2 (v := .int .i64 yn) rfl
      have y3 := cell_n HR2.out 3 (v := .bool ya) rfl
      have y4 := cell_n HR2.out 4 (v := str yb) rfl
      have HX2 := Lib.hid (hx1.new Hb2.out)
      have HC2 := Lib.hid (HC0.out.trans (hc1.trans (TalkC.new z1 Hb2.out)))
      clear hx1 hc1
      go_upto_region 16 with fail
      rw [hW2.out, hR.out]
      go_wp2_with fail
      refine (comes_law _ i2 j2 yn ya yb z1 _ T HX2.out (HOe.out.small.mono (by omega)) hi2 hj2).mono ?_
      rintro e w3 ⟨rfl, z3, hx3, hc3⟩
      have HF : Hid (post (.returned (.bool (comesT { t with way := t.way.eraseIdx k } ⟨(i2 : Int) + 1, (j2 : Int) + 1, yn, ya, yb⟩).2)) w3) := by
        show post _ _
        rw [← HP.out, HOc.out.1]
        exact ⟨rfl, z3, _, hx3, HC2.out.trans hc3, HOc.out.2.mono (by omega)⟩
      clear hx3 hc3
      go_wp2_with fail
      exact HF.out
end Go.Proofs.Ytckclacdmpcpbaa
