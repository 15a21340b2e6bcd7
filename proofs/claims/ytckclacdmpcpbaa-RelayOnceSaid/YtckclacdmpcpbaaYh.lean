/-
  Three hosts that talk: a packet that comes.
-/
import Derived.Test.YtckclacdmpcpbaaYg
namespace Go.Proofs.Ytckclacdmpcpbaa
open Go.RowKit Wm Mm Rl
set_option linter.unusedVariables false
set_option linter.unusedSimpArgs false

theorem Parts.putRelIn {m : Nat} {z : Nat → Nat} {w w' : World} {hv wv : Value} {sv cv : Nat → Value} {Bs : Nat → Nat} {t : TalkP} (h : Parts m z w hv wv sv cv Bs t) {i : Nat} (hi : i < m) {r : RelP} (hr : RelX (fun g => z g = 2 + i) w' (Bs i) r) (hc : Chg (fun g => z g = 2 + i) w w') :
    Parts m z w' hv wv sv cv Bs { t with hosts := upd t.hosts i r } := by
  have hle := h.le
  refine ⟨h.le, ⟨own_chg h.hosts.1 hc (fun g hg => by rw [h.hosts.2 g hg]; omega), h.hosts.2⟩, fun j hj => ?_, ⟨own_chg h.way.1 hc (fun g hg => by rw [h.way.2 g hg]; omega), h.way.2⟩, h.sent.agree (hc.agree (fun g (hg : z g = 6) => by omega)), h.came.agree (hc.agree (fun g (hg : z g = 7) => by omega))⟩
  show RelX _ _ _ (upd t.hosts i r j)
  by_cases hji : j = i
  · subst hji; rw [upd_same]; exact hr
  · rw [upd_ne _ _ hji]; exact (h.rel j hj).agree (hc.agree (fun g (hg : z g = 2 + j) => by omega))
theorem recv_shape (r : RelP) (x : PktP) : (recvP r x).2.1.length ≤ 1 ∧ (recvP r x).2.2.length ≤ 1 ∧ ∀ q ∈ (recvP r x).2.1, q.frm = x.frm := by
  unfold recvP
  split
  · simp only []
    split
    · exact ⟨by simp, by simp, fun q hq => by simp at hq⟩
    · split
      · exact ⟨by simp, by simp, fun q hq => by simp at hq; subst hq; rfl⟩
      · split
        · exact ⟨by simp, by simp, fun q hq => by simp at hq⟩
        · exact ⟨by simp, by simp, fun q hq => by simp at hq⟩
  · exact ⟨by simp, by simp, fun q hq => by simp at hq⟩
theorem rowR_at : ∀ (l : List ParP) (k : Nat) (hk : k < l.length), (l.flatMap rowR)[k * 2]? = some (.int .i64 l[k].frm) ∧ (l.flatMap rowR)[k * 2 + 1]? = some (str l[k].body) := by
  intro l
  induction l with
  | nil => intro k hk; simp at hk
  | cons a r ih =>
    intro k hk
    cases k with
    | zero => exact ⟨rfl, rfl⟩
    | succ k =>
      have := ih k (by simpa using hk)
      rw [List.flatMap_cons, show (k + 1) * 2 = k * 2 + 1 + 1 from by omega]
      exact this
/-- the talk while the parcels of a packet are taken -/
def midT (t : TalkP) (j q : Nat) (r : RelP) (pl : List ParP) (k : Nat) : TalkP := { t with hosts := upd t.hosts j r, came := upd t.came q (t.came q ++ (pl.take k).map (·.body)) }
theorem midT_zero (t : TalkP) (j q : Nat) (r : RelP) (pl : List ParP) : midT t j q r pl 0 = { t with hosts := upd t.hosts j r } := by
  unfold midT
  simp only [List.take_zero, List.map_nil, List.append_nil, upd_self]
theorem midT_succ (t : TalkP) (j q : Nat) (r : RelP) (pl : List ParP) {k : Nat} (hk : k < pl.length) : midT t j q r pl (k + 1) = { midT t j q r pl k with came := upd (midT t j q r pl k).came q ((midT t j q r pl k).came q ++ [pl[k].body]) } := by
  unfold midT
  simp only [upd_same, upd_twice]
  rw [take_one pl hk, List.map_append, List.append_assoc]
  rfl
theorem comes_eq (t : TalkP) (i j : Nat) (pn : Int) (pa : Bool) (pb : List UInt8) (hi : i < 3) (hj : j < 3) {r : RelP} {pl : List ParP} {al : List PktP} (hr : recvP (t.hosts j) ⟨(i : Int) + 1, (j : Int) + 1, pn, pa, pb⟩ = (r, pl, al)) (hal : al.length ≤ 1) :
    comesT t ⟨(i : Int) + 1, (j : Int) + 1, pn, pa, pb⟩ = ({ midT t j (4 * i + j) r pl pl.length with known := if pa = true ∧ t.known (4 * j + i) < pn then upd t.known (4 * j + i) pn else t.known, way := t.way ++ al }, true) := by
  unfold comesT
  have hh : (isHost ((j : Int) + 1) && isHost ((i : Int) + 1)) = true := by unfold isHost; simp; omega
  rw [if_pos hh]
  have e1 : ((j : Int) + 1 - 1).toNat = j := by omega
  have e2 : ((i : Int) + 1 - 1).toNat = i := by omega
  simp only [e1, e2, hr]
  unfold midT knownP
  simp only [List.take_length]
  rw [show decide (al.length < 2) = true from decide_eq_true (by omega)]

theorem comes_fin {t : TalkP} {z z1 : Nat → Nat} {w V w9 : World} {T q n : Nat} {hv wv : Value} {sv cv : Nat → Value} {Bs : Nat → Nat} {a a9 : Option Addr} {c k9 : Nat} {body : List UInt8} (hp : Parts 3 z1 V hv wv sv cv Bs t) (htc : TalkC z z1 w V) (hzT : z1 T = 0) (hq : q < 16) (hv1 : cv q = .slice a n c) (hn : (t.came q).length = n)
    (hg : (V.alloc (.cells #[str body] 9)).drew.grownBy w9 (Value.slice a n c).ownBlock) (ho : w9.ownsRow 0 9 1 (.slice a9 (n + 1) k9) (n + 1) ((t.came q).flatMap rowS ++ [str body]))
    (hb : ∀ g, (Value.slice a9 (n + 1) k9).ownBlock = some g → (Value.slice a n c).ownBlock = some g ∨ (V.alloc (.cells #[str body] 9)).drew.heap.size ≤ g) (hBV : V.heap[T]? = some (blkT hv wv sv cv t.known)) (hB : w9.heap[T]? = some (blkT hv wv sv cv t.known)) :
    TalkX 3 (zon z1 (V.heap.size + 1) 7) (w9.setCell ⟨T, 18 + q, none⟩ (.slice a9 (n + 1) k9)) T { t with came := upd t.came q (t.came q ++ [body]) } ∧ TalkC z (zon z1 (V.heap.size + 1) 7) w (w9.setCell ⟨T, 18 + q, none⟩ (.slice a9 (n + 1) k9)) := by
  have hpa : Parts 3 z1 (V.alloc (.cells #[str body] 9)).drew hv wv sv cv Bs t := hp.agree ((Agree.alloc _ V _).trans (Agree.drew _ _))
  have hsz : (V.alloc (.cells #[str body] 9)).drew.heap.size = V.heap.size + 1 := by simp
  have hl : (t.came q ++ [body]).length = n + 1 := by rw [List.length_append, hn]; rfl
  obtain ⟨hp2, hc2⟩ := hpa.putCame hq (v := .slice a9 (n + 1) k9) (l := t.came q ++ [body]) (w' := w9) (by rw [hv1]; exact hg) (by rw [hl, List.flatMap_append]; exact ho) (fun g e => by rw [hv1]; exact hb g e)
  have hTlt : T < (V.alloc (.cells #[str body] 9)).drew.heap.size := by have := lt_of_block hBV; omega
  have hz2 : zon z1 (V.alloc (.cells #[str body] 9)).drew.heap.size 7 T = 0 := by rw [zon_low hTlt]; exact hzT
  have hc3 : Chg (fun g => zon z1 (V.alloc (.cells #[str body] 9)).drew.heap.size 7 g = 0) w9 (w9.setCell ⟨T, 18 + q, none⟩ (.slice a9 (n + 1) k9)) := Chg.setCell w9 hz2 _
  rw [hsz] at hp2 hz2 hc3
  refine ⟨⟨⟨hv, wv, sv, _, Bs, ?_, hp2.chg0 hc3⟩, hz2⟩, ?_⟩
  · rw [blkT_set hB, cellsT_setCame _ _ _ _ _ hq]
  · refine htc.trans (TalkC.trans (z2 := z1) ?_ (TalkC.trans (by have h := TalkC.of (d := 7) (by omega) hc2; rw [hsz] at h; exact h) (TalkC.same (by omega) hc3)))
    exact ⟨(Chg.alloc _ V _).trans (Chg.drew _ _), fun g h => Or.inl h⟩

theorem way_fin {t : TalkP} {z z1 : Nat → Nat} {w V w9 : World} {T n m : Nat} {hv : Value} {sv cv : Nat → Value} {Bs : Nat → Nat} {a a9 : Option Addr} {c k9 : Nat} {al : List PktP} (hp : Parts 3 z1 V hv (.slice a n c) sv cv Bs t) (htc : TalkC z z1 w V) (hzT : z1 T = 0) (hn : t.way.length = n) (hm : al.length = m)
    (hg : V.grownBy w9 (Value.slice a n c).ownBlock) (ho : w9.ownsRow 0 34 5 (.slice a9 (n + m) k9) (n + m) (t.way.flatMap rowP ++ al.flatMap rowP)) (hb : ∀ g, (Value.slice a9 (n + m) k9).ownBlock = some g → (Value.slice a n c).ownBlock = some g ∨ V.heap.size ≤ g) (hBV : V.heap[T]? = some (blkT hv (.slice a n c) sv cv t.known)) :
    ∃ z', TalkX 3 z' (w9.setCell ⟨T, 1, none⟩ (.slice a9 (n + m) k9)) T { t with way := t.way ++ al } ∧ TalkC z z' w (w9.setCell ⟨T, 1, none⟩ (.slice a9 (n + m) k9)) := by
  have hl : (t.way ++ al).length = n + m := by rw [List.length_append, hn, hm]
  have hc : Chg (fun g => z1 g = 5) V w9 := Chg.grown hg (fun b e => hp.way.2 b e)
  have hp2 := hp.putWay (w' := w9) (v := .slice a9 (n + m) k9) (l := t.way ++ al) (by show World.ownsRow _ _ _ _ _ _ _; rw [hl, List.flatMap_append]; exact ho) (fun g e => (hb g e).imp (fun e => hp.way.2 g e) id) hc
  have hTlt := lt_of_block hBV
  have hB : w9.heap[T]? = some (blkT hv (.slice a n c) sv cv t.known) := hc.at hBV (by omega)
  have hz2 : zon z1 V.heap.size 5 T = 0 := by rw [zon_low hTlt]; exact hzT
  have hc3 : Chg (fun g => zon z1 V.heap.size 5 g = 0) w9 (w9.setCell ⟨T, 1, none⟩ (.slice a9 (n + m) k9)) := Chg.setCell w9 hz2 _
  refine ⟨_, ⟨⟨hv, _, sv, cv, Bs, ?_, hp2.chg0 hc3⟩, hz2⟩, htc.trans ((TalkC.of (d := 5) (by omega) hc).trans (TalkC.same (by omega) hc3))⟩
  rw [blkT_set hB, cellsT_setWay]
set_option maxHeartbeats 8000000 in
set_option maxRecDepth 100000 in
theorem comes_law (t : TalkP) (i j : Nat) (pn : Int) (pa : Bool) (pb : List UInt8) (z : Nat → Nat) (w : World) (T : Nat) (h : TalkX 3 z w T t) (hs : Small 1073741824 t) (hi : i < 3) (hj : j < 3) :
    Calls Try.prog 30 #[.pointer (some ⟨T, 0, none⟩), .agg #[.int .i64 ((i : Int) + 1), .int .i64 ((j : Int) + 1), .int .i64 pn, .bool pa, str pb]] w fun e w' => e = .returned (.bool (comesT t ⟨(i : Int) + 1, (j : Int) + 1, pn, pa, pb⟩).2) ∧ ∃ z', TalkX 3 z' w' T (comesT t ⟨(i : Int) + 1, (j : Int) + 1, pn, pa, pb⟩).1 ∧ TalkC z z' w w' := by
  obtain ⟨post, HP⟩ := hide (fun (e : Ending) (w' : World) => e = .returned (.bool (comesT t ⟨(i : Int) + 1, (j : Int) + 1, pn, pa, pb⟩).2) ∧ ∃ z', TalkX 3 z' w' T (comesT t ⟨(i : Int) + 1, (j : Int) + 1, pn, pa, pb⟩).1 ∧ TalkC z z' w w')
  rw [HP.out]
  obtain ⟨W, hW⟩ := hide (w.alloc (.cells #[.int .i64 ((i : Int) + 1), .int .i64 ((j : Int) + 1), .int .i64 pn, .bool pa, str pb] 34))
  obtain ⟨X, hX⟩ := hide w.heap.size
  have HXW : Hid (W.heap[X]? = some (blkP ⟨(i : Int) + 1, (j : Int) + 1, pn, pa, pb⟩)) := by show _ = _; rw [← hW.out, ← hX.out]; exact hp_at _ _ rfl
  have HbW : Hid (Below w.heap.size w W) := by show Below _ _ _; rw [← hW.out]; exact (Below.refl _ _).alloc (Nat.le_refl _) _
  have HsW : Hid (W.heap.size = X + 1) := by show _ = _; rw [← hW.out, ← hX.out]; simp
  have hXW := (h.clip.new HbW.out).clip
  have HC0 : Hid (TalkC z (clip (clip z w.heap.size) W.heap.size) w W) := (TalkC.clip z w).trans ((TalkC.new _ HbW.out).trans (TalkC.clip _ W))
  have hz8 : ∀ g, w.heap.size ≤ g → clip (clip z w.heap.size) W.heap.size g = 8 := fun g hg => by
    unfold clip
    rcases Nat.lt_or_ge g W.heap.size with h | h
    · rw [zon_low h]; exact zon_new hg
    · exact zon_new h
  obtain ⟨zc, hzc⟩ := hide (clip (clip z w.heap.size) W.heap.size)
  rw [hzc.out] at HC0 hXW hz8
  rw [hX.out] at hz8
  have Hz8 := Lib.hid hz8
  obtain ⟨⟨hv, wv, sv, cv, Bs, hblk, hp⟩, hz⟩ := hXW
  obtain ⟨hg, hc, rfl⟩ := own_ptr hp.hosts.1 (by decide)
  obtain ⟨r1, pl, al, hrec⟩ : ∃ r1 pl al, recvP (t.hosts j) ⟨(i : Int) + 1, (j : Int) + 1, pn, pa, pb⟩ = (r1, pl, al) := ⟨_, _, _, rfl⟩
  have hshape := recv_shape (t.hosts j) ⟨(i : Int) + 1, (j : Int) + 1, pn, pa, pb⟩
  rw [hrec] at hshape
  obtain ⟨hpl, hal, hfr⟩ := hshape
  have HCE := Lib.hid (comes_eq t i j pn pa pb hi hj hrec hal)
  have KR := Lib.hid (recv_law (t.hosts j) ⟨(i : Int) + 1, (j : Int) + 1, pn, pa, pb⟩ (fun g => zc g = 2 + j) W.drew (Bs j) ((hp.rel j hj).agree (Agree.drew _ W)) (fun k hk => hs.wait j k hj hk) (fun k hk => Nat.le_trans (hs.sent j k hj hk) (by decide)) (fun k hk => Nat.le_trans (hs.came j k hj hk) (by decide)))
  rw [hrec] at KR
  have c0 := cell_n hblk 0 (cellsT_hosts _ _ _ _ _)
  have e0 := own_cell hp.hosts.1 (three hj)
  have x0 := cell_n HXW.out 0 (v := .int .i64 ((i : Int) + 1)) rfl
  have x1 := cell_n HXW.out 1 (v := .int .i64 ((j : Int) + 1)) rfl
  have x2 := cell_n HXW.out 2 (v := .int .i64 pn) rfl
  have x3 := cell_n HXW.out 3 (v := .bool pa) rfl
  have x4 := cell_n HXW.out 4 (v := str pb) rfl
  have t1 : decide ((j : Int) + 1 < 1) = false := decide_eq_false (by omega)
  have t2 : decide (3 < (j : Int) + 1) = false := decide_eq_false (by omega)
  have t3 : decide ((i : Int) + 1 < 1) = false := decide_eq_false (by omega)
  have t4 : decide (3 < (i : Int) + 1) = false := decide_eq_false (by omega)
  have ji : (j : Int) < 3 := by omega
  have jw : IntKind.i64.wrap (j : Int) = (j : Int) := IntWalk.i64_in _ (by omega)
  have jw2 : IntKind.i64.wrap ((j : Int) + 1 - 1) = (j : Int) := by rw [show (j : Int) + 1 - 1 = (j : Int) from by omega]; exact jw
  have Hblk := Lib.hid hblk
  have Hp := Lib.hid hp
  have Hs := Lib.hid hs
  have Hrec := Lib.hid hrec
  have Hfr := Lib.hid hfr
  clear h hblk hp hs hrec hfr hz8
  go_enter Try.func30, Try.ntmps30
  go_upto_region 1 with fail
  rw [hW.out, hX.out]
  go_upto_region 3 with fail
  go_cut [5, 6] (fun s5 s6 wx => ∃ a5 c5 a6 c6, s5 = .slice a5 pl.length c5 ∧ s6 = .slice a6 al.length c6 ∧ Hid (wx.ownsRow (X + 1) 42 2 (.slice a5 pl.length c5) pl.length (pl.flatMap rowR)) ∧ Hid (wx.ownsRow (X + 1) 34 5 (.slice a6 al.length c6) al.length (al.flatMap rowP)) ∧ Hid (RelX (fun g => zc g = 2 + j) wx (Bs j) r1) ∧ Hid (Chg (fun g => zc g = 2 + j) W wx))
  case first =>
    --SLOW
    go_region_with (go_at_call 20; refine KR.out.mono ?_; rintro e w5 ⟨pv, av, rfl, ho5, ho6, hr5, hc5⟩; obtain ⟨a5, c5, rfl⟩ := owns_slice ho5; obtain ⟨a6, c6, rfl⟩ := owns_slice ho6; have Ho5 := Lib.hid ho5; have Ho6 := Lib.hid ho6; have Hr5 := Lib.hid hr5; have Hc5 := Lib.hid hc5; clear ho5 ho6 hr5 hc5)
    all_goals
      go_wp2_with fail
      go_meet
      refine ⟨a5, c5, a6, c6, rfl, rfl, ?_, ?_, Hr5, (Chg.drew _ W).trans Hc5.out⟩
      · rw [← HsW.out]; exact Ho5.out
      · rw [← HsW.out]; exact Ho6.out
    --ENDSLOW
  case rest =>
    obtain ⟨V, hV⟩ : ∃ V, V = wc := ⟨_, rfl⟩
    subst hV
    obtain ⟨a5, c5, a6, c6, rfl, rfl, Hpv, Hav, HrV, HcV⟩ := hcut
    clear c0 e0 x0 x1 x2 x3 x4
    have HpV := Lib.hid (Parts.putRelIn Hp.out hj HrV.out HcV.out)
    have HbV : Hid (V.heap[T]? = some (blkT (.slice (some ⟨hg, 0, none⟩) 3 hc) wv sv cv t.known)) := HcV.out.at Hblk.out (by omega)
    have HXV : Hid (V.heap[X]? = some (blkP ⟨(i : Int) + 1, (j : Int) + 1, pn, pa, pb⟩)) := HcV.out.at HXW.out (by rw [Hz8.out X (Nat.le_refl _)]; omega)
    obtain ⟨q, hq⟩ : ∃ q, q = 4 * i + j := ⟨_, rfl⟩
    have hq16 : q < 16 := by omega
    have Hq := Lib.hid hq
    clear hq
    have HI : Hid (∃ z', TalkX 3 z' V T (midT t j q r1 pl 0) ∧ TalkC z z' w V ∧ (∀ g, X ≤ g → g < V.heap.size → z' g = 8)) := by
      exact ⟨zc, ⟨⟨.slice (some ⟨hg, 0, none⟩) 3 hc, wv, sv, cv, Bs, HbV.out, by rw [midT_zero]; exact HpV.out⟩, hz⟩, HC0.out.trans (TalkC.same (by omega) HcV.out), fun g hg _ => Hz8.out g hg⟩
    have HLo : Hid (∀ g, (Value.slice a5 pl.length c5).ownBlock = some g ∨ (Value.slice a6 al.length c6).ownBlock = some g ∨ g = X → X ≤ g ∧ g < V.heap.size) := fun g hg => by
      rcases hg with h | h | h
      · have := Hpv.out.lt g h; omega
      · have := Hav.out.lt g h; omega
      · subst h; exact ⟨Nat.le_refl _, lt_of_block HXV.out⟩
    have hplB : pl.length ≤ 1 := hpl
    go_upto_region 4 with fail
    go_wp2_with fail
    go_loopw [7] (fun s7 wr => ∃ k : Nat, s7 = .int .i64 k ∧ k ≤ pl.length ∧ Hid (∃ z', TalkX 3 z' wr T (midT t j q r1 pl k) ∧ TalkC z z' w wr ∧ (∀ g, X ≤ g → g < V.heap.size → z' g = 8) ∧ V.heap.size ≤ wr.heap.size) ∧ Hid (Agree (fun g => X ≤ g) V wr)) (fun s7 _ => pl.length - (intOf s7).toNat)
    case atStart => exact ⟨0, rfl, Nat.zero_le _, (by obtain ⟨z', h1, h2, h3⟩ := HI.out; exact ⟨z', h1, h2, h3, Nat.le_refl _⟩), Agree.refl _ _⟩
    case round =>
      obtain ⟨k, rfl, hk, hx, ha⟩ := hrel
      by_cases hlt : k < pl.length
      · obtain ⟨z', hXr, hTC, hz8, hsz⟩ := hx.out
        obtain ⟨⟨hv', wv', sv', cv', Bs', hblk', hp'⟩, hzT⟩ := hXr
        obtain ⟨g5, k5, he5⟩ := own_ptr Hpv.out (by omega)
        injection he5 with e1 e2 e3
        subst e1 e3
        have hpvr := own_agree Hpv.out ha.out (fun g e => (HLo.out g (Or.inl e)).1)
        obtain ⟨r0, r1'⟩ := rowR_at pl k hlt
        have d0 := own_cell hpvr r0
        have d1 := own_cell hpvr r1'
        rw [Hfr.out _ (List.getElem_mem hlt)] at d0
        have hmid := midT_succ t j q r1 pl hlt
        obtain ⟨pbk, hpbk⟩ := hide pl[k].body
        rw [hpbk.out] at d1 hmid
        have hblkX := (ha.out.2 X (Nat.le_refl _) (lt_of_block HXV.out)).trans HXV.out
        have x0 := cell_n hblkX 0 (v := .int .i64 ((i : Int) + 1)) rfl
        have x1 := cell_n hblkX 1 (v := .int .i64 ((j : Int) + 1)) rfl
        have Hblk2 := Lib.hid hblk'
        have Hp2 := Lib.hid hp'
        have Hmid := Lib.hid hmid
        have Hx0 := Lib.hid x0
        have Hx1 := Lib.hid x1
        have Hd1 := Lib.hid d1
        have hki : (k : Int) < (pl.length : Int) := by omega
        clear hblk' hp' hmid hpvr r0 r1' hblkX
        go_upto_region 7 with fail
        go_cut [55] (fun s wx => s = .bool false ∧ Hid (∃ n, wx = wr.drewN n))
        case first =>
          go_quiet (fail)
          go_wp2_with fail
          go_meet
          exact ⟨rfl, ⟨_, rfl⟩⟩
        case rest =>
          obtain ⟨U, hU⟩ : ∃ U, U = wc := ⟨_, rfl⟩
          subst hU
          obtain ⟨rfl, hn⟩ := hcut
          obtain ⟨o, ho⟩ := hn.out
          have HUb : Hid (U.heap[T]? = some (blkT hv' wv' sv' cv' (midT t j q r1 pl k).known)) := by show _ = _; rw [ho]; exact Hblk2.out
          have HUp : Hid (Parts 3 z' U hv' wv' sv' cv' Bs' (midT t j q r1 pl k)) := by show Parts _ _ _ _ _ _ _ _ _; rw [ho]; exact Hp2.out.agree (Agree.drewN _ wr o)
          have HUc : Hid (TalkC z z' w U) := by show TalkC _ _ _ _; rw [ho]; exact ⟨hTC.chg.trans (Chg.drewN _ wr o), hTC.own⟩
          have HUa : Hid (Agree (fun g => X ≤ g) V U) := by show Agree _ _ _; rw [ho]; exact ha.out.trans (Agree.drewN _ wr o)
          have y0 : U.cell? ⟨X, 0, none⟩ = some (.int .i64 ((i : Int) + 1)) := by rw [ho]; exact Hx0.out
          have y1 : U.cell? ⟨X, 1, none⟩ = some (.int .i64 ((j : Int) + 1)) := by rw [ho]; exact Hx1.out
          have y2 : U.cell? ⟨g5, k * 2 + 1, none⟩ = some (str pbk) := by rw [ho]; exact Hd1.out
          have hcast : 4 * (i : Int) + ((j : Int) + 1) - 1 = (q : Int) := by have := Hq.out; omega
          clear hn ho x0 x1 d0 d1
          obtain ⟨a, c, hcv⟩ := owns_slice (HUp.out.came.own q hq16)
          have s1 := cell_n HUb.out (18 + q) (cellsT_came _ _ _ _ _ hq16)
          have g1 := free_n HUb.out (18 + q)
          rw [hcv] at s1
          have Hcv := Lib.hid hcv
          have hlen : ((midT t j q r1 pl k).came q).length ≤ 2147483648 := by
            show (upd t.came q _ q).length ≤ _
            rw [upd_same, List.length_append, List.length_map, List.length_take]
            have := Hs.out.lcame q hq16
            omega
          obtain ⟨n, hnn⟩ := hide ((midT t j q r1 pl k).came q).length
          have Hn := Lib.hid hnn.out
          rw [hnn.out] at s1 hlen
          have hoq : U.ownsRow 0 9 1 (.slice a n c) n (((midT t j q r1 pl k).came q).flatMap rowS) := by have h := HUp.out.came.own q hq16; rw [Hcv.out, Hn.out] at h; exact h
          have HoA : Hid ((U.drew.alloc (.cells #[str pbk] 9)).ownsRow 0 9 1 (.slice a n c) n (((midT t j q r1 pl k).came q).flatMap rowS)) := hoq.drew.alloc _
          have HsA : Hid (Src Try.prog 1 54 (.slice (some ⟨U.drew.heap.size, 0, none⟩) 1 1) 1 [str pbk] (U.drew.alloc (.cells #[str pbk] 9))) := src_new (w := U.drew) Try.underlying54 _ 1 rfl (rowS_one pbk)
          have hTlt := lt_of_block HUb.out
          have s3 : (U.alloc (.cells #[str pbk] 9)).cell? ⟨T, 18 + q, none⟩ = some (.slice a n c) := (World.cell?_of_block (hp_past U _ (by show T ≠ U.heap.size; omega))).trans s1
          have hTne : some T ≠ (Value.slice a n c).ownBlock := fun e => by
            have h1 := HUp.out.came.foot q hq16 T (by rw [Hcv.out, Hn.out]; exact e.symm)
            omega
          have HBk : Hid (∀ w9 : World, (U.drew.alloc (.cells #[str pbk] 9)).grownBy w9 (Value.slice a n c).ownBlock → w9.heap[T]? = some (blkT hv' wv' sv' cv' (midT t j q r1 pl k).known)) := fun w9 hg => by
            rw [hg.block T (by simp; omega) hTne, hp_past _ _ (by show T ≠ U.heap.size; omega)]
            exact HUb.out
          have Hat := Lib.hid hq16
          have hati : (q : Int) < 16 := by omega
          clear hcv hoq
          go_upto_region 10 with fail
          go_region_law (refine step_append_at (by rfl) _ _ 54 54 (by rfl) 0 9 _ 1 16 Try.underlying54 info_str rfl _ _ _ (by rfl) HoA.out _ 1 _ (by rfl) HsA.out (by unfold maxLen; omega) (by omega) (Nat.zero_le _) ?_; intro v9 w9 ho9 hg9 hb9; obtain ⟨a9, k9, rfl⟩ := owns_slice ho9; have hB9 := HBk.out _ hg9; have d2 := cell_n hB9 (18 + q) (cellsT_came _ _ _ _ _ hq16); have g3 := free_n hB9 (18 + q); have Ho9 := Lib.hid ho9; have Hg9 := Lib.hid hg9; have Hb9 := Lib.hid hb9; have HB9 := Lib.hid hB9; clear ho9 hg9 hb9 hB9)
          all_goals
            have HA := Lib.hid (comes_fin HUp.out (TalkC.refl z' U) hzT Hat.out (Hcv.out.trans (by rw [Hn.out])) Hn.out Hg9.out Ho9.out Hb9.out HUb.out HB9.out)
            rw [← Hmid.out] at HA
            obtain ⟨Wn, hWn⟩ := hide (w9.setCell ⟨T, 18 + q, none⟩ (.slice a9 (n + 1) k9))
            rw [hWn.out] at HA ⊢
            have HNX : Hid (∃ z'', TalkX 3 z'' Wn T (midT t j q r1 pl (k + 1)) ∧ TalkC z z'' w Wn ∧ (∀ g, X ≤ g → g < V.heap.size → z'' g = 8) ∧ V.heap.size ≤ Wn.heap.size) := by
              have h1 := HUa.out.1
              have h2 := HA.out.2.chg.size
              refine ⟨_, HA.out.1, HUc.out.trans HA.out.2, fun g hg hlt => ?_, by omega⟩
              rw [zon_low (by omega)]; exact hz8 g hg hlt
            have HNA : Hid (Agree (fun g => X ≤ g) V Wn) := by
              have h1 := HUa.out.1
              have h2 := HA.out.2.chg.size
              exact ⟨by omega, fun g hg hlt => (HA.out.2.chg.block g (by omega) (by rw [hz8 g hg hlt]; omega)).trans (HUa.out.2 g hg hlt)⟩
            clear y0 y1 y2 s1 g1 s3 d2 g3
            go_wp2_with fail
            go_roundw
            case rel => exact ⟨k + 1, by go_num, by omega, HNX, HNA⟩
            case measure => simp [intOf]; omega
      · obtain rfl : k = pl.length := by omega
        obtain ⟨z', hXr, hTC, hz8, hsz⟩ := hx.out
        obtain ⟨⟨hv', wv', sv', cv', Bs', hblk', hp'⟩, hzT⟩ := hXr
        have hblkX := (ha.out.2 X (Nat.le_refl _) (lt_of_block HXV.out)).trans HXV.out
        have x0 := cell_n hblkX 0 (v := .int .i64 ((i : Int) + 1)) rfl
        have x1 := cell_n hblkX 1 (v := .int .i64 ((j : Int) + 1)) rfl
        have x2 := cell_n hblkX 2 (v := .int .i64 pn) rfl
        have x3 := cell_n hblkX 3 (v := .bool pa) rfl
        obtain ⟨q2, hq2⟩ : ∃ q2, q2 = 4 * j + i := ⟨_, rfl⟩
        have hq216 : q2 < 16 := by omega
        have hcast2 : 4 * (j : Int) + ((i : Int) + 1) - 1 = (q2 : Int) := by omega
        rw [← hq2] at HCE
        have Hq2 := Lib.hid hq2
        have hq2i : (q2 : Int) < 16 := by omega
        have s1 := cell_n hblk' (34 + q2) (cellsT_known _ _ _ _ _ hq216)
        have g1 := free_n hblk' (34 + q2)
        have hkn : (midT t j q r1 pl pl.length).known q2 = t.known q2 := rfl
        rw [hkn] at s1
        obtain ⟨kk, hkk⟩ := hide (t.known q2)
        rw [hkk.out] at s1 HCE
        have Hblk2 := Lib.hid hblk'
        have Hp2 := Lib.hid hp'
        have HxX := Lib.hid hblkX
        clear hq2 hblk' hp' hkn hblkX
        obtain ⟨bq, hbq⟩ := hide (pa && decide (kk < pn))
        go_upto_region 12 with fail
        go_cut [102] (fun s wx => s = .bool bq ∧ Hid (∃ n, wx = wr.drewN n))
        case first =>
          rcases Bool.eq_false_or_eq_true pa with hpa | hpa
          rotate_left
          · rw [hpa] at x3
            have Hbf : Hid (bq = false) := by show _ = _; rw [← hbq.out, hpa]; rfl
            clear hpa
            go_quiet (fail)
            go_wp2_with fail
            go_meet
            exact ⟨by rw [Hbf.out], ⟨_, rfl⟩⟩
          · rw [hpa] at x3
            have Hbf : Hid (bq = decide (kk < pn)) := by show _ = _; rw [← hbq.out, hpa]; rfl
            clear hpa
            go_quiet (fail)
            go_wp2_with fail
            go_meet
            exact ⟨by rw [Hbf.out], ⟨_, rfl⟩⟩
        case rest =>
          obtain ⟨U, hU⟩ : ∃ U, U = wc := ⟨_, rfl⟩
          subst hU
          obtain ⟨rfl, hn⟩ := hcut
          obtain ⟨o, ho⟩ := hn.out
          have HUb0 : Hid (U.heap[T]? = some (blkT hv' wv' sv' cv' t.known)) := by show _ = _; rw [ho]; exact Hblk2.out
          have HUp0 : Hid (Parts 3 z' U hv' wv' sv' cv' Bs' (midT t j q r1 pl pl.length)) := by show Parts _ _ _ _ _ _ _ _ _; rw [ho]; exact Hp2.out.agree (Agree.drewN _ wr o)
          have HUc0 : Hid (TalkC z z' w U) := by show TalkC _ _ _ _; rw [ho]; exact ⟨hTC.chg.trans (Chg.drewN _ wr o), hTC.own⟩
          have HUa0 : Hid (Agree (fun g => X ≤ g) V U) := by show Agree _ _ _; rw [ho]; exact ha.out.trans (Agree.drewN _ wr o)
          have HUX0 : Hid (U.heap[X]? = some (blkP ⟨(i : Int) + 1, (j : Int) + 1, pn, pa, pb⟩)) := by show _ = _; rw [ho]; exact HxX.out
          clear hn ho x0 x1 x2 x3 s1 g1
          rcases Bool.eq_false_or_eq_true bq with hb | hb
          · subst hb
            have hcond : pa = true ∧ kk < pn := by have := hbq.out; simpa using this
            rw [if_pos hcond] at HCE
            have y2 := cell_n HUX0.out 2 (v := .int .i64 pn) rfl
            have s2 := cell_n HUb0.out (34 + q2) (cellsT_known _ _ _ _ _ hq216)
            have g2 := free_n HUb0.out (34 + q2)
            go_upto_region 13 with fail
            go_region
            all_goals
              obtain ⟨UK, hUK⟩ := hide ((U.setCell ⟨T, 34 + q2, none⟩ (.int .i64 pn)).drew)
              rw [hUK.out]
              have hsU : Chg (fun g => z' g = 0) U UK := by rw [← hUK.out]; exact (Chg.setCell U hzT _).trans (Chg.drew _ _)
              have HUb : Hid (UK.heap[T]? = some (blkT hv' wv' sv' cv' (upd t.known q2 pn))) := by
                show _ = _
                rw [← hUK.out]
                show (U.setCell _ _).heap[T]? = _
                rw [blkT_set HUb0.out, cellsT_setKnown _ _ _ _ _ hq216]
              have HUp := Lib.hid ((HUp0.out.chg0 hsU).known (upd t.known q2 pn))
              have HUc : Hid (TalkC z z' w UK) := HUc0.out.trans (TalkC.same (by omega) hsU)
              have HUa : Hid (Agree (fun g => X ≤ g) V UK) := by
                refine ⟨Nat.le_trans HUa0.out.1 hsU.size, fun g hg hl => (hsU.block g (Nat.lt_of_lt_of_le hl HUa0.out.1) ?_).trans (HUa0.out.2 g hg hl)⟩
                rw [hz8 g hg hl]; omega
              clear hcond y2 s2 g2
              have hwl : (t.way).length ≤ 1073741824 := Hs.out.way
              obtain ⟨aw, cw, hwv⟩ := owns_slice HUp.out.way.1
              subst hwv
              obtain ⟨nw, hnw⟩ := hide (midT t j q r1 pl pl.length).way.length
              have Hnw := Lib.hid hnw.out
              have hnwl : nw ≤ 1073741824 := by rw [← hnw.out]; exact hwl
              have HoW : Hid (UK.ownsRow 0 34 5 (.slice aw nw cw) nw ((midT t j q r1 pl pl.length).way.flatMap rowP)) := by have h := HUp.out.way.1; rw [← Hnw.out]; exact h
              rw [hnw.out] at HUp HUb
              have HsW2 : Hid (Src Try.prog 5 28 (.slice a6 al.length c6) al.length (al.flatMap rowP) UK) := src_own Try.underlying28 (own_agree Hav.out HUa.out (fun g e => (HLo.out g (Or.inr (Or.inl e))).1)) (fun u hu => by obtain ⟨p, _, hp⟩ := List.mem_flatMap.1 hu; exact rowP_one p u hp)
              have v1 := cell_n HUb.out 1 (cellsT_way _ _ _ _ _)
              have halm : al.length ≤ 1 := hal
              obtain ⟨m, hm⟩ := hide al.length
              have Hm := Lib.hid hm.out
              rw [hm.out] at HsW2 halm ⊢
              go_wp2_with (at_builtin; refine wpList_append_at rfl _ _ 28 28 rfl 0 34 _ 5 48 Try.underlying28 info_pkt rfl _ _ _ rfl HoW.out _ _ _ rfl HsW2.out (by unfold maxLen; omega) (by omega) (Nat.zero_le _) ?_)
              intro v9 w9 ho9 hg9 hb9
              obtain ⟨a9, k9, rfl⟩ := owns_slice ho9
              have hTz5 : some T ≠ (Value.slice aw nw cw).ownBlock := fun e => by have := HUp.out.way.2 T e.symm; omega
              have hB9 := (hg9.block T (lt_of_block HUb.out) hTz5).trans HUb.out
              have d1 := cell_n hB9 1 (cellsT_way _ _ _ _ _)
              have g1 := free_n hB9 1
              have HFin := Lib.hid (way_fin HUp.out HUc.out hzT Hnw.out Hm.out hg9 ho9 hb9 HUb.out)
              have t9 : decide ((m : Int) < 2) = true := decide_eq_true (by omega)
              clear v1 ho9 hg9 hb9 hB9
              go_wp2_with fail
              rw [← HP.out, HCE.out, ← Hq.out]
              exact ⟨rfl, HFin.out⟩
          · subst hb
            have hcond : ¬ (pa = true ∧ kk < pn) := by have := hbq.out; simpa using this
            rw [if_neg hcond] at HCE
            have HUb := HUb0
            have HUp := Lib.hid (HUp0.out.known t.known)
            have HUc := HUc0
            have HUa := HUa0
            clear hcond
            have hwl : (t.way).length ≤ 1073741824 := Hs.out.way
            obtain ⟨aw, cw, hwv⟩ := owns_slice HUp.out.way.1
            subst hwv
            obtain ⟨nw, hnw⟩ := hide (midT t j q r1 pl pl.length).way.length
            have Hnw := Lib.hid hnw.out
            have hnwl : nw ≤ 1073741824 := by rw [← hnw.out]; exact hwl
            have HoW : Hid (U.ownsRow 0 34 5 (.slice aw nw cw) nw ((midT t j q r1 pl pl.length).way.flatMap rowP)) := by have h := HUp.out.way.1; rw [← Hnw.out]; exact h
            rw [hnw.out] at HUp HUb
            have HsW2 : Hid (Src Try.prog 5 28 (.slice a6 al.length c6) al.length (al.flatMap rowP) U) := src_own Try.underlying28 (own_agree Hav.out HUa.out (fun g e => (HLo.out g (Or.inr (Or.inl e))).1)) (fun u hu => by obtain ⟨p, _, hp⟩ := List.mem_flatMap.1 hu; exact rowP_one p u hp)
            have v1 := cell_n HUb.out 1 (cellsT_way _ _ _ _ _)
            have halm : al.length ≤ 1 := hal
            obtain ⟨m, hm⟩ := hide al.length
            have Hm := Lib.hid hm.out
            rw [hm.out] at HsW2 halm ⊢
            go_wp2_with (at_builtin; refine wpList_append_at rfl _ _ 28 28 rfl 0 34 _ 5 48 Try.underlying28 info_pkt rfl _ _ _ rfl HoW.out _ _ _ rfl HsW2.out (by unfold maxLen; omega) (by omega) (Nat.zero_le _) ?_)
            intro v9 w9 ho9 hg9 hb9
            obtain ⟨a9, k9, rfl⟩ := owns_slice ho9
            have hTz5 : some T ≠ (Value.slice aw nw cw).ownBlock := fun e => by have := HUp.out.way.2 T e.symm; omega
            have hB9 := (hg9.block T (lt_of_block HUb.out) hTz5).trans HUb.out
            have d1 := cell_n hB9 1 (cellsT_way _ _ _ _ _)
            have g1 := free_n hB9 1
            have HFin := Lib.hid (way_fin HUp.out HUc.out hzT Hnw.out Hm.out hg9 ho9 hb9 HUb.out)
            have t9 : decide ((m : Int) < 2) = true := decide_eq_true (by omega)
            clear v1 ho9 hg9 hb9 hB9
            go_wp2_with fail
            rw [← HP.out, HCE.out, ← Hq.out]
            exact ⟨rfl, HFin.out⟩
end Go.Proofs.Ytckclacdmpcpbaa
