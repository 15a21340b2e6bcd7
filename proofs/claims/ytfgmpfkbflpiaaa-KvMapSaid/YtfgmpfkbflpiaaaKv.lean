/-
  The law KvExact, walked: it answers true.
-/
import Derived.Test.YtfgmpfkbflpiaaaKu
import Derived.Deep.DeepCutAuto
import Derived.Deep.RegionWith
namespace Go.Proofs.Ytfgmpfkbflpiaaa
open Go.RowKit Wm Mm Dg Kv
set_option linter.unusedVariables false
set_option linter.unusedSimpArgs false

theorem putK_len (l : List PairP) (key val : List UInt8) : (putK l key val).1.length ≤ l.length + 1 := by
  unfold putK
  split
  · show l.length ≤ _; omega
  · exact putL_len _ _ _
theorem doK_len (l : List PairP) (c : CmdP) : (doK l c).1.length ≤ l.length + 1 := by
  unfold doK
  split
  · exact putK_len _ _ _
  split
  · exact putK_len _ _ _
  split
  · split
    · show l.length ≤ _; omega
    · split
      · show l.length ≤ _; omega
      · exact putK_len _ _ _
  split
  · show l.length ≤ _; omega
  split
  · show l.length ≤ _; omega
  split
  · show (l.eraseIdx _).length ≤ _
    have := List.length_eraseIdx_le l (place l c.key)
    omega
  · show l.length ≤ _; omega
theorem applyK_len (l : List PairP) (c : CmdP) : (applyK l c).1.length ≤ l.length ∨ (applyK l c).1.length ≤ 33 := by
  unfold applyK
  cases h : isCommand c.kind c.key c.val c.iff && pairsB l
  · exact Or.inl (Nat.le_refl _)
  · rw [if_pos rfl]
    rw [Bool.and_eq_true] at h
    have h1 := (pairsB_ok h.2).n
    have h2 := doK_len l c
    exact Or.inr (by omega)
theorem keysK_len (l : List PairP) (key : List UInt8) (n : Int) : (keysK l key n).length ≤ l.length := by
  unfold keysK lim
  have h1 : (((l.drop (place l key)).takeWhile (fun p => pre key p.key)).map PairP.key).length ≤ l.length := by
    rw [List.length_map]
    have h2 := (List.takeWhile_prefix (fun p : PairP => pre key p.key) (l := l.drop (place l key))).length_le
    rw [List.length_drop] at h2
    omega
  split
  · exact h1
  · rw [List.length_take]; omega
theorem applyK_keys (l : List PairP) (c : CmdP) : (applyK l c).2.keys.length ≤ l.length := by
  have hz : ∀ (x : List PairP) (kd : Int) (vl : List UInt8) (vr : Int), (x, (⟨kd, vl, vr, []⟩ : ResP)).2.keys.length ≤ l.length := fun _ _ _ _ => Nat.zero_le _
  have hp : ∀ v, (putK l c.key v).2.keys.length ≤ l.length := fun v => by rw [(putK_val l c.key v).2]; exact Nat.zero_le _
  unfold applyK doK
  split
  · split
    · exact hp _
    split
    · exact hp _
    split
    · split
      · exact hz _ _ _ _
      split
      · exact hz _ _ _ _
      · exact hp _
    split
    · exact keysK_len l c.key c.iff
    split
    · exact hz _ _ _ _
    split
    · exact hz _ _ _ _
    · exact hz _ _ _ _
  · exact hz _ _ _ _
theorem first_k : applyK [] ⟨1, [107], [118], 0⟩ = ([⟨[107], [118], 1⟩], ⟨1, [], 1, []⟩) := by kernel_rfl
abbrev Cmds (F : Nat → Prop) (w : World) (v : Value) (l : List CmdP) : Prop := Sl 4 (Plain rowCmd) F w v l
theorem Sl.cmd {F : Nat → Prop} {w : World} {a : Option Addr} {n c : Nat} {l : List CmdP} (h : Cmds F w (.slice a n c) l) {k : Nat} (hk : k < l.length) :
    ∃ b off, a = some ⟨b, off, none⟩ ∧ w.cell? ⟨b, off + k * 4, none⟩ = some (.int .i64 l[k].kind) ∧ w.cell? ⟨b, off + k * 4 + 1, none⟩ = some (str l[k].key) ∧ w.cell? ⟨b, off + k * 4 + 2, none⟩ = some (str l[k].val) ∧ w.cell? ⟨b, off + k * 4 + 3, none⟩ = some (.int .i64 l[k].iff) := by
  obtain ⟨b, off, us, e, _, _, hus, hcs⟩ := h.at hk
  have hus' : us = rowCmd l[k] := hus
  subst hus'
  exact ⟨b, off, e, by have := hcs 0 _ rfl; rwa [Nat.add_zero] at this, hcs 1 _ rfl, hcs 2 _ rfl, hcs 3 _ rfl⟩

/-- what kv.Apply gave, and its result in a box -/
structure Got (V W : World) (l : List PairP) (r : ResP) (av kv : Value) (T : Nat) : Prop where
  ha : OwnP V.heap.size W av l
  hk : W.ownsRow V.heap.size 9 1 kv r.keys.length (r.keys.flatMap rowText)
  tt : W.heap[T]? = some (.cells (rowRes r.kind r.val r.ver kv).toArray 26 (0, 0))
  bel : Below V.heap.size V W
  hT : V.heap.size ≤ T
theorem Got.late {V V' V3 : World} {l : List PairP} {r : ResP} {av kv : Value} (h0 : Below V.heap.size V V') (hb : Below V'.heap.size V' V3) (ha : OwnP V'.heap.size V3 av l) (hk : V3.ownsRow V'.heap.size 9 1 kv r.keys.length (r.keys.flatMap rowText)) :
    Got V (V3.alloc (.cells (rowRes r.kind r.val r.ver kv).toArray 26)) l r av kv V3.heap.size := by
  have h1 := h0.size
  have h2 := hb.size
  have h3 : Below V.heap.size V V3 := h0.trans (hb.mono h1)
  exact ⟨own_base (ha.alloc _) h1, own_base (hk.alloc _) h1, hp_at _ _ rfl, h3.alloc (by omega) _, by omega⟩
theorem Got.soon {V U V3 : World} {l : List PairP} {r : ResP} {av kv : Value} (hU : (V.alloc (.cells zeroRes.toArray 26)).drew = U) (hb : Below U.heap.size U V3) (ha : OwnP U.heap.size V3 av l) (hk : V3.ownsRow U.heap.size 9 1 kv r.keys.length (r.keys.flatMap rowText)) :
    Got V (setAll V3 V.heap.size (rowRes r.kind r.val r.ver kv)) l r av kv V.heap.size := by
  have hs : U.heap.size = V.heap.size + 1 := by rw [← hU]; show (V.alloc _).heap.size = _; simp
  have h0 : U.heap[V.heap.size]? = some (.cells zeroRes.toArray 26 (0, 0)) := by rw [← hU]; exact hp_at _ _ rfl
  have hV : Below V.heap.size V U := by rw [← hU]; exact ((Below.refl _ _).alloc (Nat.le_refl _) _).drew
  have h3 : V3.heap[V.heap.size]? = some (.cells zeroRes.toArray 26 (0, 0)) := (hb.block _ (by omega)).trans h0
  have hc := setFrom_chg V.heap.size (rowRes r.kind r.val r.ver kv) V3 0
  refine ⟨own_chg (own_base ha (by omega)) hc (fun g h1 h2 => ?_), own_chg (own_base hk (by omega)) hc (fun g h1 h2 => ?_), setAll_at (xs := zeroRes) h3 _ rfl, setAll_below (hV.trans (hb.mono (by omega))) (Nat.le_refl _) _, Nat.le_refl _⟩
  · have e' : g = V.heap.size := h2
    have := (ha.lt g h1).1
    omega
  · have e' : g = V.heap.size := h2
    have := (hk.lt g h1).1
    omega

set_option maxHeartbeats 8000000 in
set_option maxRecDepth 100000 in
theorem law_kvExact (lv cv : Value) (l : List PairP) (cs : List CmdP) (F G : Nat → Prop) (w : World) (hl : Prs F w lv l) (hc : Cmds G w cv cs) (hn : l.length ≤ 3518437208780) (hcn : cs.length ≤ 4611686018427387903) :
    Calls Try.prog 3 #[lv, cv] w fun e w' => e = .returned (.bool true) ∧ Below w.heap.size w w' := by
  obtain ⟨post, HP⟩ := hide (fun (e : Ending) (w' : World) => e = .returned (.bool true) ∧ Below w.heap.size w w')
  rw [HP.out]
  obtain ⟨ao, cap, rfl, hcap, hmax⟩ := hl.slice
  obtain ⟨ac, ccap, rfl, _, hcm⟩ := hc.slice
  have HN := Lib.hid hn
  have HG : Hid (∀ w', Below w.heap.size w w' → Cmds G w' (.slice ac cs.length ccap) cs) := fun w' hb => hc.frame (Plain.good _) (Agree.below hb)
  have HL : Hid (∀ w', Below w.heap.size w w' → Prs (fun _ => True) w' (.slice ao l.length cap) l) := fun w' hb => (hl.frame (Plain.good _) (Agree.below hb)).weak (Plain.good _) (fun _ _ _ => trivial)
  have KA := Lib.hid (apply_law ⟨1, [107], [118], 0⟩ (.slice none 0 0) [] (fun _ => True) w (Sl.nil _ _ _ _) (by decide))
  obtain ⟨nc, hnc⟩ := hide cs.length
  rw [hnc.out] at HG hcm hcn
  rw [hnc.out]
  clear hl hc hn hcap hmax
  go_enter Try.func3, Try.ntmps3
  go_wp2_with fail
  refine KA.out.mono ?_
  rintro e W1 hpost
  unfold ApplyPost at hpost
  rw [first_k] at hpost
  obtain ⟨av, kv, rfl, ho1, hk1, hb1⟩ := hpost
  dsimp only at ho1 hk1 ⊢
  obtain ⟨a1, c1, rfl⟩ := owns_slice ho1
  obtain ⟨a2, c2, rfl⟩ := owns_slice hk1
  obtain ⟨W2, hW2⟩ := hide (W1.alloc (.cells (rowRes 1 [] 1 (.slice a2 0 c2)).toArray 26))
  obtain ⟨K, hK⟩ := hide W1.heap.size
  have HW2 : Hid (Below w.heap.size w W2) := by show Below _ _ _; rw [← hW2.out]; exact hb1.alloc hb1.size _
  have HK2 : Hid (W2.heap[K]? = some (.cells (rowRes 1 [] 1 (.slice a2 0 c2)).toArray 26 (0, 0))) := by show _ = _; rw [← hW2.out, ← hK.out]; exact hp_at _ _ rfl
  clear ho1 hk1 hb1
  go_upto_region 2 with fail
  try simp only [List.length_cons, List.length_nil, Nat.zero_add] 
  rw [hW2.out]
  rw [hK.out]
  obtain ⟨k0, k1, k2, k3⟩ := four_cells HK2.out
  go_wp2_with fail
  clear k0 k1 k2 k3
  go_loopw [7, 8] (fun s7 s8 wr => ∃ i : Nat, ∃ pa pc, ∃ p : List PairP, s8 = .int .i64 i ∧ i ≤ nc + 1 ∧ s7 = .slice pa p.length pc ∧ Hid (Prs (fun _ => True) wr (.slice pa p.length pc) p) ∧ Hid (p.length ≤ 3518437208780) ∧ Hid (Below w.heap.size w wr)) (fun _ s8 _ => nc + 1 - (intOf s8).toNat)
  case atStart => exact ⟨0, ao, cap, l, rfl, Nat.zero_le _, rfl, HL.out _ HW2.out, HN, HW2⟩
  case round =>
    clear HK2 hK hW2 HW2 HL HN
    obtain ⟨i, pa, pc, p, rfl, hi, rfl, hp, hpn, hb⟩ := hrel
    by_cases hle : i ≤ nc
    · obtain ⟨ci, hci⟩ : ∃ ci, Hid (ci = cs.getD i ⟨6, [], [], 0⟩) := ⟨_, rfl⟩
      obtain ⟨n, hpl⟩ := hide p.length
      rw [hpl.out] at hp hpn
      rw [hpl.out]
      obtain ⟨C, hC⟩ := hide wr.heap.size
      obtain ⟨V1, hV1⟩ := hide (wr.alloc (.cells #[.int .i64 6, .string ⟨#[]⟩, .string ⟨#[]⟩, .int .i64 0] 30))
      have HB1 : Hid (Below wr.heap.size wr V1) := by show Below _ _ _; rw [← hV1.out]; exact (Below.refl _ _).alloc (Nat.le_refl _) _
      have HC1 : Hid (V1.heap[C]? = some (.cells #[.int .i64 6, .string ⟨#[]⟩, .string ⟨#[]⟩, .int .i64 0] 30 (0, 0))) := by show _ = _; rw [← hV1.out, ← hC.out]; exact hp_at _ _ rfl
      have HCl : Hid (wr.heap.size ≤ C) := by show _ ≤ _; rw [hC.out]; exact Nat.le_refl _
      go_upto_if 48 with fail
      rw [hV1.out]
      rw [hC.out]
      go_cut [] from 49 to 52 (fun wx => Hid (wx.heap[C]? = some (.cells (rowCmd ci).toArray 30 (0, 0))) ∧ Hid (Below wr.heap.size wr wx))
      case first =>
        by_cases hlt : i < nc
        · have hil : i < cs.length := by rw [hnc.out]; exact hlt
          have hcx : ci = cs[i] := by rw [hci.out, List.getD_eq_getElem?_getD, List.getElem?_eq_getElem hil]; rfl
          obtain ⟨b, off, e1, g0, g1, g2, g3⟩ := Sl.cmd (HG.out _ (hb.out.trans (HB1.out.mono hb.out.size))) hil
          subst e1
          rw [← hcx] at g0 g1 g2 g3
          have hii : (i : Int) < (nc : Int) := by omega
          have f0 := free_n HC1.out 0
          have f1 := free_n HC1.out 1
          have f2 := free_n HC1.out 2
          have f3 := free_n HC1.out 3
          have z0 := cell_n HC1.out 0 (v := .int .i64 6) rfl
          have z1 := cell_n HC1.out 1 (v := .string ⟨#[]⟩) rfl
          have z2 := cell_n HC1.out 2 (v := .string ⟨#[]⟩) rfl
          have z3 := cell_n HC1.out 3 (v := .int .i64 0) rfl
          have HE1 : Hid ((setAll V1 C (rowCmd ci)).heap[C]? = some (.cells (rowCmd ci).toArray 30 (0, 0))) := setAll_at (xs := [.int .i64 6, .string ⟨#[]⟩, .string ⟨#[]⟩, .int .i64 0]) HC1.out _ rfl
          have HE2 : Hid (Below wr.heap.size wr (setAll V1 C (rowCmd ci))) := setAll_below HB1.out HCl.out _
          clear hcx
          go_wp2_with fail
          go_meet
          exact ⟨HE1, HE2⟩
        · have hcx : ci = ⟨6, [], [], 0⟩ := by rw [hci.out, List.getD_eq_getElem?_getD, List.getElem?_eq_none (by rw [hnc.out]; omega)]; rfl
          have HE1 : Hid (V1.heap[C]? = some (.cells (rowCmd ci).toArray 30 (0, 0))) := by show _ = _; rw [hcx]; exact HC1.out
          clear hcx
          go_wp2_with fail
          go_meet
          exact ⟨HE1, HB1⟩
      case rest =>
        clear HB1 HC1 hC hV1
        obtain ⟨V, hV⟩ : ∃ V, V = wc := ⟨_, rfl⟩
        subst hV
        obtain ⟨HCV, HbV⟩ := hcut
        have HpV : Hid (Prs (fun _ => True) V (.slice pa n pc) p) := hp.out.frame (Plain.good _) (Agree.below HbV.out)
        have HsV : Hid (Src Try.prog 3 22 (.slice pa n pc) n (p.flatMap rowPair) V) := by
          have h := src_sl (P := Try.prog) (tx := 22) rowPair Try.underlying22 (by decide) rowPair_len rowPair_one (by have h := HpV.out; rw [← hpl.out] at h; exact h)
          rw [hpl.out] at h
          exact h
        have Hnil : Hid (V.ownsRow V.heap.size 32 3 (.slice none 0 0) 0 []) := World.ownsRow_nil _ _ _ _
        obtain ⟨SV, hSV⟩ := hide V.heap.size
        rw [hSV.out] at Hnil
        have HSV : Hid (SV ≤ V.heap.size) := by show _ ≤ _; rw [hSV.out]; exact Nat.le_refl _
        go_wp2_with (at_builtin; refine wpList_append_src rfl _ _ 22 22 rfl SV 32 _ 3 40 Try.underlying22 info_pair rfl _ _ _ rfl Hnil.out _ _ _ rfl HsV.out (by have := hpn.out; unfold maxLen; omega) (by have := hpn.out; omega) HSV.out ?_)
        intro x1 V1 ho1 hg1
        obtain ⟨xa1, xc1, rfl⟩ := owns_slice ho1
        try simp only [Nat.zero_add, List.nil_append] at ho1
        have Ho1 := Lib.hid ho1
        have Hb1 : Hid (Below V.heap.size V V1) := grown_fresh0 hg1 (Nat.le_refl _)
        have HS1 : Hid (SV ≤ V1.heap.size) := by show _ ≤ _; rw [← hSV.out]; exact Hb1.out.size
        try rw [Nat.zero_add]
        clear ho1 hg1
        go_wp2_with (at_builtin; refine wpList_push rfl _ _ 22 rfl SV 32 _ 3 40 Try.underlying22 info_pair rfl (by decide) _ _ _ rfl Ho1.out _ rfl rfl (by intro u hu; simp at hu; rcases hu with rfl | rfl | rfl <;> rfl) (by have := hpn.out; unfold maxLen; omega) (by have := hpn.out; omega) HS1.out ?_)
        intro x2 V2 ho2 hg2
        obtain ⟨xa, xc, rfl⟩ := owns_slice ho2
        have Hb2 : Hid (Below V.heap.size V V2) := by
          show Below _ _ _
          rw [hSV.out]
          exact (by rw [← hSV.out]; exact Hb1.out : Below SV V V1).trans (below_own Ho1.out hg2 (Nat.le_refl _) HS1.out)
        obtain ⟨g, rfl⟩ : ∃ g, xa = some ⟨g, 0, none⟩ := by
          rcases ho2.2 with ⟨hv, h0⟩ | ⟨g, c, cur, hv, _⟩
          · omega
          · injection hv with e1; exact ⟨g, e1⟩
        have Ho2 := Lib.hid ho2
        have Hxc : Hid (n + 1 ≤ xc) := (own_lt ho2).1
        have Hxm : Hid (xc ≤ 9223372036854775807) := (own_lt ho2).2.1
        have Hrl : Hid ((p.flatMap rowPair).length = n * 3) := by show _ = _; rw [← hpl.out]; exact flat_len rowPair rowPair_len p
        clear ho2 hg2
        have HX : Hid (∀ w', Below V2.heap.size V2 w' → Prs (fun _ => True) w' (.slice (some ⟨g, 0, none⟩) n xc) p) := fun w' hb' => by
          have h := own_take Ho2.out (k := n) (by omega)
          rw [List.take_append_of_le_length (by rw [Hrl.out]; exact Nat.le_refl _), List.take_of_length_le (by rw [Hrl.out]; exact Nat.le_refl _)] at h
          rw [← hpl.out] at h ⊢
          exact ((OwnP.prs h).weak (Plain.good _) (fun _ _ _ => trivial)).frame (Plain.good _) (Agree.below hb')
        have HX9 : Hid (∀ w', Below V2.heap.size V2 w' → w'.cell? ⟨g, n * 3 + 2, none⟩ = some (.int .i64 99)) := fun w' hb' => by
          have h1 : V2.cell? ⟨g, n * 3 + 2, none⟩ = some (.int .i64 99) := own_cell Ho2.out (by rw [List.getElem?_append_right (by rw [Hrl.out]; omega), Hrl.out, Nat.add_sub_cancel_left]; rfl)
          exact (hb'.cell (p := ⟨g, n * 3 + 2, none⟩) (World.block_lt_of_cell? _ _ h1)).trans h1
        have HPb : Hid (∀ w', Below V2.heap.size V2 w' → Prs (fun _ => True) w' (.slice pa n pc) p) := fun w' hb' => HpV.out.frame (Plain.good _) ((Agree.below Hb2.out).trans (Agree.below hb'))
        have HP2 : Hid (Prs (fun k => k < V2.heap.size) V2 (.slice pa n pc) p) := (((HpV.out.weak (Plain.good _) (fun k _ hk => hk)).frame (Plain.good _) (Agree.below Hb2.out)) : Prs (fun k => k < V.heap.size) V2 _ p).weak (Plain.good _) (fun k _ hk => hk)
        have HCb : Hid (∀ w', Below V2.heap.size V2 w' → w'.heap[C]? = some (.cells (rowCmd ci).toArray 30 (0, 0))) := fun w' hb' => by
          have h2 : V2.heap[C]? = _ := (Hb2.out.block _ (lt_of_block HCV.out)).trans HCV.out
          exact (hb'.block _ (lt_of_block h2)).trans h2
        have HW : Hid (∀ w', Below V2.heap.size V2 w' → Below wr.heap.size wr w') := fun w' hb' => (HbV.out.trans (Hb2.out.mono HbV.out.size)).trans (hb'.mono (Nat.le_trans HbV.out.size Hb2.out.size))
        clear Ho1 Hb1 HS1 HSV hSV Hnil HsV HpV Hb2 HCV HbV hp
        have KA : Hid (∀ w', Below V2.heap.size V2 w' → Calls Try.prog 14 #[.slice (some ⟨g, 0, none⟩) n xc, vCmd ci.kind ci.key ci.val ci.iff] w' (ApplyPost w' p ci)) := fun w' hb' => apply_law ci _ p _ w' (HX.out _ hb') (by rw [hpl.out]; have := hpn.out; omega)
        obtain ⟨Y, hY⟩ := hide (applyK p ci)
        have KA2 : Hid (∀ w', Below V2.heap.size V2 w' → Calls Try.prog 14 #[.slice (some ⟨g, 0, none⟩) n xc, vCmd ci.kind ci.key ci.val ci.iff] w' fun e w'' => ∃ a9 k9 kv, e = .returned (.tuple #[.slice a9 Y.1.length k9, vRes Y.2.kind Y.2.val Y.2.ver kv]) ∧ OwnP w'.heap.size w'' (.slice a9 Y.1.length k9) Y.1 ∧ w''.ownsRow w'.heap.size 9 1 kv Y.2.keys.length (Y.2.keys.flatMap rowText) ∧ Below w'.heap.size w' w'') := fun w' hb' => by
          have h := KA.out w' hb'
          refine h.mono ?_
          intro e w'' hp
          unfold ApplyPost at hp
          rw [hY.out] at hp
          obtain ⟨av, kv, he, ho, hk, hb⟩ := hp
          obtain ⟨a9, k9, rfl⟩ := owns_slice ho
          exact ⟨a9, k9, kv, he, ho, hk, hb⟩
        obtain ⟨yl, yk, yv, yr, ys⟩ := Y
        dsimp only at KA2
        clear KA
        have Hys : Hid (ys.length ≤ 3518437208800) := by show _ ≤ _; have h := applyK_keys p ci; rw [hY.out] at h; have h2 : ys.length ≤ p.length := h; rw [hpl.out] at h2; have := hpn.out; omega
        obtain ⟨Rel, hRel⟩ := hide (fun (av kv : Value) (T : Nat) (wx : World) => Got V2 wx yl ⟨yk, yv, yr, ys⟩ av kv T)
        go_upto_region 12 with fail
        go_cut [11, 12] (fun s11 s12 wx => ∃ a9 k9 kv T, s11 = .slice a9 yl.length k9 ∧ s12 = .pointer (some ⟨T, 0, none⟩) ∧ Rel (.slice a9 yl.length k9) kv T wx)
        case first =>
          have Hd : Hid (Below V2.heap.size V2 V2.drew) := (Below.refl _ _).drew
          have x0 := HCb.out _ Hd.out
          have c0 := cell_n x0 0 (v := .int .i64 ci.kind) rfl
          have c1 := cell_n x0 1 (v := str ci.key) rfl
          have c2 := cell_n x0 2 (v := str ci.val) rfl
          have c3 := cell_n x0 3 (v := .int .i64 ci.iff) rfl
          clear x0
          have Ha : Hid (Below V2.heap.size V2 (V2.alloc (.cells #[.int .i64 0, .string ⟨#[]⟩, .int .i64 0, .slice none 0 0] 26)).drew) := ((Below.refl _ _).alloc (Nat.le_refl _) _).drew
          have x5 := HCb.out _ Ha.out
          have f0 := cell_n x5 0 (v := .int .i64 ci.kind) rfl
          have f1 := cell_n x5 1 (v := str ci.key) rfl
          have f2 := cell_n x5 2 (v := str ci.val) rfl
          have f3 := cell_n x5 3 (v := .int .i64 ci.iff) rfl
          clear x5
          have HY : Hid (∀ V3, Below (V2.alloc (.cells #[.int .i64 0, .string ⟨#[]⟩, .int .i64 0, .slice none 0 0] 26)).drew.heap.size (V2.alloc (.cells #[.int .i64 0, .string ⟨#[]⟩, .int .i64 0, .slice none 0 0] 26)).drew V3 → V3.heap[V2.heap.size]? = some (.cells #[.int .i64 0, .string ⟨#[]⟩, .int .i64 0, .slice none 0 0] 26 (0, 0))) := fun V3 hb => (hb.block _ (by show _ < (V2.alloc _).heap.size; simp)).trans (hp_at _ _ rfl)
          have Hz1 : Hid (∀ V3 a9 k9 kv, Below (V2.alloc (.cells #[.int .i64 0, .string ⟨#[]⟩, .int .i64 0, .slice none 0 0] 26)).drew.heap.size (V2.alloc (.cells #[.int .i64 0, .string ⟨#[]⟩, .int .i64 0, .slice none 0 0] 26)).drew V3 → OwnP (V2.alloc (.cells #[.int .i64 0, .string ⟨#[]⟩, .int .i64 0, .slice none 0 0] 26)).drew.heap.size V3 (.slice a9 yl.length k9) yl → V3.ownsRow (V2.alloc (.cells #[.int .i64 0, .string ⟨#[]⟩, .int .i64 0, .slice none 0 0] 26)).drew.heap.size 9 1 kv ys.length (ys.flatMap rowText) → Rel (.slice a9 yl.length k9) kv V2.heap.size ((((V3.setCell ⟨V2.heap.size, 0, none⟩ (.int .i64 yk)).setCell ⟨V2.heap.size, 1, none⟩ (str yv)).setCell ⟨V2.heap.size, 2, none⟩ (.int .i64 yr)).setCell ⟨V2.heap.size, 3, none⟩ kv)) := by
            intro V3 a9 k9 kv hb ho hk
            rw [← hRel.out]
            exact Got.soon (V := V2) (V3 := V3) (l := yl) (r := ⟨yk, yv, yr, ys⟩) (av := .slice a9 yl.length k9) (kv := kv) rfl hb ho hk
          have Hz2 : Hid (∀ V3 a9 k9 kv, Below V2.drew.heap.size V2.drew V3 → OwnP V2.drew.heap.size V3 (.slice a9 yl.length k9) yl → V3.ownsRow V2.drew.heap.size 9 1 kv ys.length (ys.flatMap rowText) → Rel (.slice a9 yl.length k9) kv V3.heap.size (V3.alloc (.cells #[.int .i64 yk, str yv, .int .i64 yr, kv] 26))) := by
            intro V3 a9 k9 kv hb ho hk
            rw [← hRel.out]
            exact Got.late (V' := V2.drew) (r := ⟨yk, yv, yr, ys⟩) Hd.out hb ho hk
          have q1 : (n : Int) ≤ (n : Int) + 1 := by omega
          have q2 : (n : Int) ≤ (xc : Int) := by have := Hxc.out; omega
          have q3 : n ≤ xc := by have := Hxc.out; omega
          go_region_with (go_at_call 14; go_loud ((with_reducible refine (KA2.out _ (by first | with_reducible exact Hd.out | with_reducible exact Ha.out)).mono ?_); rintro e V3 ⟨a9, k9, kv, rfl, ho3, hk3, hb3⟩; have Ho3 := Lib.hid ho3; have Hk3 := Lib.hid hk3; have Hb3 := Lib.hid hb3; obtain ⟨ka, kc, hkv⟩ := owns_slice hk3; subst hkv; (first | have y3 := HY.out V3 (by with_reducible exact hb3) | skip); (first | (have g0 := free_n y3 0; have g1 := free_n y3 1; have g2 := free_n y3 2; have g3 := free_n y3 3; have q0 := cell_n y3 0 (v := .int .i64 0) rfl; have q1 := cell_n y3 1 (v := .string ⟨#[]⟩) rfl; have q2 := cell_n y3 2 (v := .int .i64 0) rfl; have q3 := cell_n y3 3 (v := .slice none 0 0) rfl; clear y3) | skip); clear ho3 hk3 hb3))
          all_goals
            go_wp2_with fail
            go_meet
            refine ⟨a9, k9, .slice ka ys.length kc, _, rfl, rfl, ?_⟩
            first
            | with_reducible exact Hz1.out _ _ _ _ Hb3.out Ho3.out Hk3.out
            | with_reducible exact Hz2.out _ _ _ _ Hb3.out Ho3.out Hk3.out
        case rest =>
          obtain ⟨a9, k9, kv, T, rfl, rfl, hrel⟩ := hcut
          obtain ⟨V3, hV3⟩ : ∃ V, V = wc := ⟨_, rfl⟩
          subst hV3
          rw [← hRel.out] at hrel
          obtain ⟨ka, kc, rfl⟩ := owns_slice hrel.hk
          have HGot := Lib.hid hrel
          clear hrel hRel Rel
          have KR : Hid (Calls Try.prog 15 #[.slice pa n pc, vCmd ci.kind ci.key ci.val ci.iff] V3 (RefPost V3 p ci (.slice pa n pc))) := refApply_law ci _ p _ V3 (HPb.out _ HGot.out.bel)
          have x0 := HCb.out _ HGot.out.bel
          have c0 := cell_n x0 0 (v := .int .i64 ci.kind) rfl
          have c1 := cell_n x0 1 (v := str ci.key) rfl
          have c2 := cell_n x0 2 (v := str ci.val) rfl
          have c3 := cell_n x0 3 (v := .int .i64 ci.iff) rfl
          clear x0 KA2
          go_wp2_with fail
          refine KR.out.mono ?_
          rintro e V4 hpost
          unfold RefPost at hpost
          rw [hY.out] at hpost
          obtain ⟨bv, sv, rfl, hbv, hsk, hb4⟩ := hpost
          dsimp only at hbv hsk ⊢
          obtain ⟨sa, sc, rfl⟩ := owns_slice hsk
          obtain ⟨ab, kb, rfl⟩ : ∃ ab kb, bv = .slice ab yl.length kb := by
            rcases hbv with ⟨h1, h2⟩ | h1
            · refine ⟨pa, pc, ?_⟩
              rw [h1, h2, hpl.out]
            · obtain ⟨x, y, h2⟩ := owns_slice h1
              exact ⟨x, y, h2⟩
          have Hb4 := Lib.hid hb4
          have HBx : Hid (∀ w', Agree (fun k => k < V2.heap.size ∨ V3.heap.size ≤ k) V4 w' → Prs (fun _ => True) w' (.slice ab yl.length kb) yl) := fun w' ha => by
            rcases hbv with ⟨h1, h2⟩ | h1
            · rw [h1, h2]
              exact (HP2.out.frame (Plain.good _) (((Agree.belowB HGot.out.bel (fun k hk => hk)).trans (Agree.belowB (hb4.mono HGot.out.bel.size) (fun k hk => hk))).trans (ha.sub (fun k hk => Or.inl hk)))).weak (Plain.good _) (fun _ _ _ => trivial)
            · exact ((OwnP.prs h1).frame (Plain.good _) (ha.sub (fun k hk => Or.inr hk))).weak (Plain.good _) (fun _ _ _ => trivial)
          obtain ⟨V5, hV5⟩ := hide (V4.alloc (.cells (rowRes yk yv yr (.slice sa ys.length sc)).toArray 26))
          obtain ⟨U, hU⟩ := hide V4.heap.size
          have H45 : Hid (Below V4.heap.size V4 V5) := by show Below _ _ _; rw [← hV5.out]; exact (Below.refl _ _).alloc (Nat.le_refl _) _
          have H35 : Hid (Below V3.heap.size V3 V5) := hb4.trans (H45.out.mono hb4.size)
          have H25 : Hid (Below V2.heap.size V2 V5) := HGot.out.bel.trans (H35.out.mono HGot.out.bel.size)
          have HU5 : Hid (V5.heap[U]? = some (.cells (rowRes yk yv yr (.slice sa ys.length sc)).toArray 26 (0, 0))) := by show _ = _; rw [← hV5.out, ← hU.out]; exact hp_at _ _ rfl
          have HSk : Hid (V5.ownsRow V3.heap.size 9 1 (.slice sa ys.length sc) ys.length (ys.flatMap rowText)) := own_below hsk H45.out
          clear hbv hsk hb4 c0 c1 c2 c3
          go_upto_region 14 with fail
          rw [hV5.out]
          rw [hU.out]
          have HA : Hid (∀ w', Below V5.heap.size V5 w' → OwnP V2.heap.size w' (.slice a9 yl.length k9) yl) := fun w' h => own_below HGot.out.ha (H35.out.trans (h.mono H35.out.size))
          have HKk : Hid (∀ w', Below V5.heap.size V5 w' → w'.ownsRow V2.heap.size 9 1 (.slice ka ys.length kc) ys.length (ys.flatMap rowText)) := fun w' h => own_below HGot.out.hk (H35.out.trans (h.mono H35.out.size))
          have HT : Hid (∀ w', Below V5.heap.size V5 w' → w'.heap[T]? = some (.cells (rowRes yk yv yr (.slice ka ys.length kc)).toArray 26 (0, 0))) := fun w' h => ((H35.out.trans (h.mono H35.out.size)).block _ (lt_of_block HGot.out.tt)).trans HGot.out.tt
          have HUb : Hid (∀ w', Below V5.heap.size V5 w' → w'.heap[U]? = some (.cells (rowRes yk yv yr (.slice sa ys.length sc)).toArray 26 (0, 0))) := fun w' h => (h.block _ (lt_of_block HU5.out)).trans HU5.out
          have HB5 : Hid (∀ w', Below V5.heap.size V5 w' → Prs (fun _ => True) w' (.slice ab yl.length kb) yl) := fun w' h => HBx.out _ ((Agree.below H45.out).trans (Agree.below h))
          have H2w : Hid (∀ w', Below V5.heap.size V5 w' → Below V2.heap.size V2 w') := fun w' h => H25.out.trans (h.mono H25.out.size)
          have KS1 := Lib.hid (law_samePairs _ _ yl _ _ V5 (OwnP.prs (HA.out _ (Below.refl _ _))) (HB5.out _ (Below.refl _ _)))
          go_wp2_with fail
          refine KS1.out.mono ?_
          rintro e V6 ⟨rfl, hb6⟩
          have Hb6 := Lib.hid hb6
          clear hb6 KS1
          dsimp only
          obtain ⟨t0, t1, t2, t3⟩ := four_cells (HT.out _ Hb6.out)
          obtain ⟨u0, u1, u2, u3⟩ := four_cells (HUb.out _ Hb6.out)
          have KS2 := Lib.hid (ref_sameRes yk yv yr _ _ ys _ _ V6 (own_txs (HKk.out _ Hb6.out)) (own_txs (own_below HSk.out Hb6.out)))
          obtain ⟨ny, hny⟩ := hide ys.length
          rw [hny.out] at t3 u3 KS2
          go_wp2_with fail
          refine KS2.out.mono ?_
          rintro e V7 ⟨rfl, hb7⟩
          have Hb7 : Hid (Below V5.heap.size V5 V7) := Hb6.out.trans (hb7.mono Hb6.out.size)
          clear hb7 KS2 t0 t1 t2 t3 u0 u1 u2 u3
          dsimp only
          have q1 : (n : Int) ≤ (n : Int) + 1 := by omega
          have q2 : (n : Int) ≤ (xc : Int) := by have := Hxc.out; omega
          have q3 : n ≤ xc := by have := Hxc.out; omega
          have KS3 := Lib.hid (law_samePairs _ _ p _ _ V7 (HX.out _ (H2w.out _ Hb7.out)) (HPb.out _ (H2w.out _ Hb7.out)))
          go_wp2_with fail
          refine KS3.out.mono ?_
          rintro e V8 ⟨rfl, hb8⟩
          have Hb8 : Hid (Below V5.heap.size V5 V8) := Hb7.out.trans (hb8.mono Hb7.out.size)
          clear hb8 KS3
          dsimp only
          have x9 := HX9.out _ (H2w.out _ Hb8.out)
          have q4 : (n : Int) < (n : Int) + 1 := by omega
          have hyl : yl.length ≤ p.length ∨ yl.length ≤ 33 := by have h := applyK_len p ci; rw [hY.out] at h; exact h
          have hyl2 : yl.length ≤ 3518437208780 := by have := hpn.out; rw [hpl.out] at hyl; omega
          have Hyl := Lib.hid hyl2
          have KO1 := Lib.hid (law_overPairs (.slice a9 yl.length k9) yl.length V2.heap.size _ V8 (HA.out _ Hb8.out) (by omega) (H2w.out _ Hb8.out).size)
          clear hyl hyl2
          obtain ⟨nl, hnl⟩ := hide yl.length
          rw [hnl.out] at KO1
          rw [hnl.out]
          go_wp2_with fail
          refine KO1.out.mono ?_
          rintro e V9 ⟨rfl, hg9⟩
          have Hg9 := Lib.hid hg9
          clear hg9 KO1 x9
          dsimp only
          have HA8 : Hid (V8.ownsRow V2.heap.size 32 3 (.slice a9 nl k9) nl (yl.flatMap rowPair)) := by rw [← hnl.out]; exact HA.out _ Hb8.out
          have HK8 := Lib.hid (HKk.out _ Hb8.out)
          have HT8 := Lib.hid (HT.out _ Hb8.out)
          rw [hny.out] at HK8 HT8
          have H28 := Lib.hid (H2w.out _ Hb8.out)
          have H29 : Hid (Below V2.heap.size V2 V9) := H28.out.trans (below_own HA8.out Hg9.out (Nat.le_refl _) H28.out.size)
          have HT9 : Hid (V9.heap[T]? = some (.cells (rowRes yk yv yr (.slice ka ny kc)).toArray 26 (0, 0))) := (Hg9.out.block _ (lt_of_block HT8.out) (fun e => own_blk_ne HA8.out HT8.out (by decide) e.symm)).trans HT8.out
          have HK9 := Lib.hid (HK8.out.kept Hg9.out (own_ne HK8.out HA8.out (by decide)))
          have t3 := cell_n HT9.out 3 (v := .slice ka ny kc) rfl
          have hny2 : ny ≤ 3518437208800 := by rw [← hny.out]; exact Hys.out
          have KO2 := Lib.hid (law_overTexts (.slice ka ny kc) ny V2.heap.size _ V9 HK9.out hny2 H29.out.size)
          clear hny2
          go_wp2_with fail
          refine KO2.out.mono ?_
          rintro e V10 ⟨rfl, hg10⟩
          have Hg10 := Lib.hid hg10
          clear hg10 KO2 t3
          dsimp only
          have H210 : Hid (Below V2.heap.size V2 V10) := H29.out.trans (below_own HK9.out Hg10.out (Nat.le_refl _) H29.out.size)
          have KS4 := Lib.hid (law_samePairs _ _ p _ _ V10 (HX.out _ H210.out) (HPb.out _ H210.out))
          go_wp2_with fail
          refine KS4.out.mono ?_
          rintro e V11 ⟨rfl, hb11⟩
          have Hb11 := Lib.hid hb11
          clear hb11 KS4
          dsimp only
          have H211 : Hid (Below V2.heap.size V2 V11) := H210.out.trans (Hb11.out.mono H210.out.size)
          have HA4 : Hid (Agree (fun k => k < V2.heap.size ∨ V3.heap.size ≤ k) V4 V8) := (Agree.below H45.out).trans (Agree.below Hb8.out)
          have HA9 : Hid (Agree (fun k => k < V2.heap.size ∨ V3.heap.size ≤ k) V4 V9) := HA4.out.trans (Agree.grown Hg9.out (fun k hk _ e => by
            have h := HGot.out.ha.lt k (by have e2 := e.symm; rw [hnl.out]; exact e2)
            omega))
          have HA10 : Hid (Agree (fun k => k < V2.heap.size ∨ V3.heap.size ≤ k) V4 V10) := HA9.out.trans (Agree.grown Hg10.out (fun k hk _ e => by
            have h := HGot.out.hk.lt k (by have e2 := e.symm; rw [← hny.out] at e2; exact e2)
            omega))
          have HPr : Hid (Prs (fun _ => True) V11 (.slice ab nl kb) yl) := by rw [← hnl.out]; exact HBx.out _ (HA10.out.trans (Agree.below Hb11.out))
          have HbF : Hid (Below w.heap.size w V11) := hb.out.trans ((HW.out _ H211.out).mono hb.out.size)
          have x9 := HX9.out _ H211.out
          go_wp2_with fail
          go_roundw
          case rel => exact ⟨i + 1, ab, kb, yl, by go_num, by omega, by rw [hnl.out], by rw [hnl.out]; exact HPr, Hyl, HbF⟩
          case measure => simp [intOf]; omega
    · have hgt : nc < i := by omega
      have t1 : decide ((i : Int) ≤ (nc : Int)) = false := decide_eq_false (by omega)
      clear hle
      go_wp2_with fail
      rw [← HP.out]
      exact ⟨rfl, hb.out⟩
end Go.Proofs.Ytfgmpfkbflpiaaa
