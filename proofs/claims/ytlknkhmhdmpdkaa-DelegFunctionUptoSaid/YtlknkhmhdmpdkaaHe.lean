/-
  DelegFunction: the law's walk.
-/
import Derived.Test.YtlknkhmhdmpdkaaHd
namespace Go.Proofs.Ytlknkhmhdmpdkaa
open Go.RowKit Wm Mm Dg
open Lg (pickP pickP_lt)
set_option linter.unusedVariables false
set_option linter.unusedSimpArgs false

theorem get_three : ∀ (l : List GivenP) (k : Nat) (hk : k < l.length), (l.flatMap rowG)[k * 3]? = some (str l[k].frm) ∧ (l.flatMap rowG)[k * 3 + 1]? = some (str l[k].upto) ∧ (l.flatMap rowG)[k * 3 + 2]? = some (.int .i64 l[k].host) := by
  intro l
  induction l with
  | nil => intro k hk; simp at hk
  | cons a r ih =>
    intro k hk
    cases k with
    | zero => exact ⟨rfl, rfl, rfl⟩
    | succ k =>
      have := ih k (by simpa using hk)
      rw [List.flatMap_cons, show (k + 1) * 3 = k * 3 + 1 + 1 + 1 from by omega]
      exact this

set_option maxHeartbeats 8000000 in
set_option maxRecDepth 100000 in
theorem law_delegFunction (v v2 : Value) (raw : List GivenP) (more : List (List UInt8)) (F F2 : Nat → Prop) (w : World) (hv : Gvns F w v raw) (hv2 : Txts F2 w v2 more) (hn : raw.length ≤ 1048576) (hn2 : more.length ≤ 1048576) :
    Calls Try.prog 5 #[v, v2] w fun e w' => e = .returned (.bool true) ∧ Below w.heap.size w w' := by
  obtain ⟨ao, cap, rfl, hcap, hmax⟩ := hv.slice
  obtain ⟨ao2, cap2, rfl, hcap2, hmax2⟩ := hv2.slice
  have Hs1 := Lib.hid (src_sl (P := Try.prog) (tx := 42) rowG Try.underlying42 (by decide) rowG_len rowG_one hv)
  have Hs2 := Lib.hid (fun w' (hb : Below w.heap.size w w') => src_sl (P := Try.prog) (tx := 43) rowS Try.underlying43 (by decide) rowS_len rowS_one (hv2.frame (Plain.good _) (Agree.below hb)))
  have Hn := Lib.hid hn
  have Hn2 := Lib.hid hn2
  obtain ⟨S, hS⟩ := hide w.heap.size
  have HS0 : Hid (S ≤ w.heap.size) := by show _ ≤ _; rw [hS.out]; exact Nat.le_refl _
  clear hv hv2 hmax hmax2
  go_enter Try.func5, Try.ntmps5
  go_wp2_with (at_builtin; refine wpList_append_src rfl _ _ 42 42 rfl S 46 _ 3 40 Try.underlying42 info_gvn rfl _ _ _ rfl (World.ownsRow_nil w S 46 3) _ _ _ rfl Hs1.out (by have := Hn.out; unfold maxLen; omega) (by have := Hn.out; omega) HS0.out ?_)
  intro v1 w1 ho1 hg1
  obtain ⟨a5, c5, rfl⟩ := owns_slice ho1
  try rw [List.nil_append] at ho1
  try rw [Nat.zero_add] at ho1
  have Ho1 : Hid (OwnG S w1 (.slice a5 raw.length c5) raw) := ho1
  have Hb1 : Hid (Below S w w1) := grown_fresh0 hg1 HS0.out
  have HS1 : Hid (S ≤ w1.heap.size) := Nat.le_trans HS0.out Hb1.out.size
  have Hs2' := Lib.hid (Hs2.out w1 (by rw [hS.out]; exact Hb1.out))
  clear ho1 hg1
  go_wp2_with (at_builtin; refine wpList_append_src rfl _ _ 43 43 rfl S 9 _ 1 16 Try.underlying43 info_txt rfl _ _ _ rfl (World.ownsRow_nil w1 S 9 1) _ _ _ rfl Hs2'.out (by have := Hn2.out; unfold maxLen; omega) (by have := Hn2.out; omega) HS1.out ?_)
  intro v2 w2 ho2 hg2
  obtain ⟨a6, c6, rfl⟩ := owns_slice ho2
  try rw [List.nil_append] at ho2
  try rw [Nat.zero_add] at ho2
  have Ho2 : Hid (OwnS S w2 (.slice a6 more.length c6) more) := ho2
  have Hb12 : Hid (Below w1.heap.size w1 w2) := grown_fresh0 hg2 (Nat.le_refl _)
  have Hb2 : Hid (Below S w w2) := Hb1.out.trans (Hb12.out.mono HS1.out)
  have HS2 : Hid (S ≤ w2.heap.size) := Nat.le_trans HS1.out Hb12.out.size
  have HG2 : Hid (OwnG S w2 (.slice a5 raw.length c5) raw) := own_below Ho1.out Hb12.out
  have KN := Lib.hid (new_own 1 w2)
  clear ho2 hg2
  go_wp2_with fail
  refine KN.out.mono ?_
  rintro e w3 ⟨v3, rfl, ho3, hb3⟩
  obtain ⟨a7, c7, rfl⟩ := owns_slice ho3
  have HD3 : Hid (OwnB S w3 (.slice a7 1 c7) [⟨[], 1⟩]) := own_base ho3 HS2.out
  have HK3 : Hid (OwnS S w3 (.slice a6 more.length c6) more) := own_below Ho2.out hb3
  have HG3 : Hid (OwnG S w3 (.slice a5 raw.length c5) raw) := own_below HG2.out hb3
  have Hb3 : Hid (Below S w w3) := Hb2.out.trans (hb3.mono HS2.out)
  have HS3 : Hid (S ≤ w3.heap.size) := Nat.le_trans HS2.out hb3.size
  have KA := Lib.hid (at_law [] _ [⟨[], 1⟩] _ w3 (OwnB.bnds HD3.out) known_ok (by decide))
  have hH1 : hostOf [] [⟨[], 1⟩] = 1 := by decide
  rw [hH1] at KA
  clear ho3 hb3 hH1
  go_wp2_with fail
  refine KA.out.mono ?_
  rintro e w4 ⟨rfl, hb4⟩
  have HD4 : Hid (OwnB S w4 (.slice a7 1 c7) [⟨[], 1⟩]) := own_below HD3.out hb4
  have HK4 : Hid (OwnS S w4 (.slice a6 more.length c6) more) := own_below HK3.out hb4
  have HG4 : Hid (OwnG S w4 (.slice a5 raw.length c5) raw) := own_below HG3.out hb4
  have Hb4 : Hid (Below S w w4) := Hb3.out.trans (hb4.mono HS3.out)
  clear hb4
  obtain ⟨n, hnn⟩ : ∃ n, n = raw.length := ⟨_, rfl⟩
  have Hnn := Lib.hid hnn
  rw [← hnn]
  have hn3 : n ≤ 1048576 := by rw [hnn]; exact Hn.out
  clear hnn
  go_upto_block 0 with fail
  go_cut [6, 7] (fun s6 s7 wx => ∃ a6 c6 a7 c7, s6 = .slice a6 (Kk more raw n).length c6 ∧ s7 = .slice a7 (Dk raw n).length c7 ∧ Hid (OwnS S wx (.slice a6 (Kk more raw n).length c6) (Kk more raw n)) ∧ Hid (OwnB S wx (.slice a7 (Dk raw n).length c7) (Dk raw n)) ∧ Hid (wx.ownsRow S 46 3 (.slice a5 n c5) n ((raw.map tame).flatMap rowG)) ∧ Hid (Below S w wx))
  case first =>
    go_wp2_with fail
    go_loopw [6, 7, 8] (fun s6 s7 i wr => ∃ k : Nat, ∃ a6 c6 a7 c7, i = .int .i64 k ∧ k ≤ n ∧ s6 = .slice a6 (Kk more raw k).length c6 ∧ s7 = .slice a7 (Dk raw k).length c7 ∧ Hid (OwnS S wr (.slice a6 (Kk more raw k).length c6) (Kk more raw k)) ∧ Hid (OwnB S wr (.slice a7 (Dk raw k).length c7) (Dk raw k)) ∧ Hid (wr.ownsRow S 46 3 (.slice a5 n c5) n ((Ck raw k).flatMap rowG)) ∧ Hid (Below S w wr)) (fun _ _ i _ => n - (intOf i).toNat)
    case atStart =>
      refine ⟨0, a6, c6, a7, c7, rfl, Nat.zero_le _, by simp [Kk], by simp [Dk], ?_, ?_, ?_, Hb4⟩
      · have e : Kk more raw 0 = more := by simp [Kk]
        rw [e]; exact HK4
      · exact HD4
      · show w4.ownsRow _ _ _ _ _ _
        have e : Ck raw 0 = raw := by simp [Ck]
        rw [e, Hnn.out]
        exact HG4.out
    case round =>
      clear HD4 HK4 HG4 HD3 HK3 HG3 KA KN
      obtain ⟨k, a6, c6, a7, c7, rfl, hkn, rfl, rfl, hK, hD, hG, hb⟩ := hrel
      by_cases hlt : k < n
      · have hkr : k < raw.length := by rw [← Hnn.out]; exact hlt
        obtain ⟨g, hao⟩ : ∃ g, a5 = some ⟨g, 0, none⟩ := by
          rcases hG.out.2 with ⟨hv, h0⟩ | ⟨g', cap', cur, hv, _⟩
          · omega
          · injection hv with e1; exact ⟨g', e1⟩
        subst hao
        have hkc : k < (Ck raw k).length := by rw [Ck_len raw (by omega)]; exact hkr
        have hck : (Ck raw k)[k] = raw[k] := by
          have := Ck_at raw hkr
          rw [List.getElem?_eq_getElem hkc] at this
          exact Option.some.inj this
        obtain ⟨c0, c1, c2⟩ := own_three hG.out hkc
        have Hset := Lib.hid (Ck_set raw hkr)
        have HDs := Lib.hid (Dk_step raw hkr)
        have HKs := Lib.hid (Kk_step more raw hkr)
        rw [hck] at c0 c1 c2
        obtain ⟨y, hy⟩ := hide raw[k]
        rw [hy.out] at c0 c1 c2 Hset HDs HKs
        have f0 := own_free hG.out (k * 3)
        have KF := Lib.hid (fun w' => keyOf_law y.frm w')
        have KU := Lib.hid (fun w' => keyOf_law y.upto w')
        obtain ⟨g0, g1, g2⟩ := get_three (Ck raw k) k hkc
        rw [hck, hy.out] at g0 g1 g2
        have KP := Lib.hid (fun w' => pick_anyP y.host 9 w' (by decide) (by decide))
        have hp9 := pickP_lt (c := y.host) (n := 9) (by decide)
        obtain ⟨t, ht⟩ := hide (tame y)
        have ht1 : t = ⟨keyP y.frm, keyP y.upto, 1 + (pickP y.host 9 : Nat)⟩ := ht.out.symm
        have htok := tame_ok y
        rw [ht.out] at Hset htok
        have HDt : Hid (Dk raw (k + 1) = setP (Dk raw k) t.frm t.upto t.host) := by show _ = _; rw [HDs.out, ← ht.out]; rfl
        have HKt : Hid (Kk more raw (k + 1) = Kk more raw k ++ [t.frm, t.upto, t.frm ++ [97]]) := by show _ = _; rw [HKs.out, ← ht.out]; rfl
        obtain ⟨q, hq⟩ := hide (pickP y.host 9)
        rw [hq.out] at KP hp9 ht1
        obtain ⟨xs, hxs⟩ := hide ((Ck raw k).flatMap rowG)
        have Hg1 : Hid (xs[k * 3 + 1]? = some (str y.upto)) := by show _ = _; rw [← hxs.out]; exact g1
        have Hg2 : Hid (xs[k * 3 + 2]? = some (.int .i64 y.host)) := by show _ = _; rw [← hxs.out]; exact g2
        have Hfs : Hid (((xs.set (k * 3) (str t.frm)).set (k * 3 + 1) (str t.upto)).set (k * 3 + 2) (.int .i64 t.host) = (Ck raw (k + 1)).flatMap rowG) := by
          show _ = _
          rw [← hxs.out, flat_set3 (Ck raw k) k t hkc, Hset.out]
        rw [hxs.out] at hG
        have hSg := (own_lt hG.out).2.2.1
        have HSg := Lib.hid hSg
        have ef : keyP y.frm = t.frm := by rw [ht1]
        have eu : keyP y.upto = t.upto := by rw [ht1]
        have eh : (1 : Int) + (q : Int) = t.host := by rw [ht1]
        have Heh := Lib.hid eh
        rw [ef] at KF
        rw [eu] at KU
        have Htok := Lib.hid htok
        clear hSg g0 g1 g2 ht1 ef eu eh htok
        go_upto_region 10 with (go_at_call 29; refine (KF.out _).mono ?_; rintro e w' ⟨rfl, rfl⟩)
        obtain ⟨V1, hV1⟩ := hide (wr.setCell ⟨g, k * 3, none⟩ (str t.frm))
        rw [hV1.out]
        have HG1 : Hid (V1.ownsRow S 46 3 (.slice (some ⟨g, 0, none⟩) n c5) n (xs.set (k * 3) (str t.frm))) := by show World.ownsRow _ _ _ _ _ _ _; rw [← hV1.out]; exact own_put hG.out _ _
        have x1 := own_cell HG1.out (i := k * 3 + 1) (u := str y.upto) (by rw [List.getElem?_set_ne (by omega)]; exact Hg1.out)
        have f1 := own_free HG1.out (k * 3 + 1)
        clear c0 c1 c2 f0
        go_upto_region 11 with (go_at_call 29; refine (KU.out _).mono ?_; rintro e w' ⟨rfl, rfl⟩)
        obtain ⟨V2, hV2⟩ := hide (V1.setCell ⟨g, k * 3 + 1, none⟩ (str t.upto))
        rw [hV2.out]
        have HG2 : Hid (V2.ownsRow S 46 3 (.slice (some ⟨g, 0, none⟩) n c5) n ((xs.set (k * 3) (str t.frm)).set (k * 3 + 1) (str t.upto))) := by show World.ownsRow _ _ _ _ _ _ _; rw [← hV2.out]; exact own_put HG1.out _ _
        have x2 := own_cell HG2.out (i := k * 3 + 2) (u := .int .i64 y.host) (by rw [List.getElem?_set_ne (by omega), List.getElem?_set_ne (by omega)]; exact Hg2.out)
        have f2 := own_free HG2.out (k * 3 + 2)
        clear x1 f1
        go_upto_region 12 with (go_at_call 30; refine (KP.out _).mono ?_; rintro e w' ⟨rfl, rfl⟩)
        obtain ⟨V3, hV3⟩ := hide (V2.setCell ⟨g, k * 3 + 2, none⟩ (.int .i64 t.host))
        rw [Heh.out, hV3.out]
        have HG3 : Hid (V3.ownsRow S 46 3 (.slice (some ⟨g, 0, none⟩) n c5) n ((Ck raw (k + 1)).flatMap rowG)) := by show World.ownsRow _ _ _ _ _ _ _; rw [← hV3.out, ← Hfs.out]; exact own_put HG2.out _ _
        clear x2 f2
        have hgr : wr.grownBy V3 (some g) := by
          rw [← hV3.out, ← hV2.out, ← hV1.out]
          exact grown_trans (grown_trans (grown_setCell wr ⟨g, k * 3, none⟩ _) (grown_setCell _ ⟨g, k * 3 + 1, none⟩ _)) (grown_setCell _ ⟨g, k * 3 + 2, none⟩ _)
        have HK3 : Hid (OwnS S V3 (.slice a6 (Kk more raw k).length c6) (Kk more raw k)) := World.ownsRow.kept hK.out hgr (own_ne hK.out hG.out (by decide))
        have HD3 : Hid (OwnB S V3 (.slice a7 (Dk raw k).length c7) (Dk raw k)) := World.ownsRow.kept hD.out hgr (own_ne hD.out hG.out (by decide))
        have Hb3 : Hid (Below S w V3) := by
          show Below _ _ _
          rw [← hV3.out, ← hV2.out, ← hV1.out]
          exact ((hb.out.setCell (p := ⟨g, k * 3, none⟩) HSg.out _).setCell (p := ⟨g, k * 3 + 1, none⟩) HSg.out _).setCell (p := ⟨g, k * 3 + 2, none⟩) HSg.out _
        have HS3 : Hid (S ≤ V3.heap.size) := by show S ≤ _; rw [← hS.out]; exact Hb3.out.size
        have hkc2 : k < (Ck raw (k + 1)).length := by rw [Ck_len raw (by omega)]; exact hkr
        have hck2 : (Ck raw (k + 1))[k] = t := by
          have := Ck_next raw hkr
          rw [List.getElem?_eq_getElem hkc2, hy.out, ht.out] at this
          exact Option.some.inj this
        have Hck2 := Lib.hid hck2
        have HcV : Hid (∀ W : World, W.ownsRow S 46 3 (.slice (some ⟨g, 0, none⟩) n c5) n ((Ck raw (k + 1)).flatMap rowG) → W.cell? ⟨g, k * 3, none⟩ = some (str t.frm) ∧ W.cell? ⟨g, k * 3 + 1, none⟩ = some (str t.upto) ∧ W.cell? ⟨g, k * 3 + 2, none⟩ = some (.int .i64 t.host)) := by
          intro W hW
          have := own_three hW hkc2
          rw [hck2] at this
          exact this
        obtain ⟨d0, d1, d2⟩ := HcV.out _ HG3.out
        have HdL := Lib.hid (Dk_len raw k (by omega))
        have HdL1 := Lib.hid (Dk_len raw (k + 1) (by omega))
        have HkL := Lib.hid (Kk_len more raw k (by omega))
        have KS : Hid (∀ w', Below V3.heap.size V3 w' → Calls Try.prog 19 #[.slice a7 (Dk raw k).length c7, str t.frm, str t.upto, .int .i64 t.host] w' fun e w'' => ∃ v', e = .returned v' ∧ OwnB w'.heap.size w'' v' (Dk raw (k + 1)) ∧ Below w'.heap.size w' w'') := by
          intro w' hb'
          rw [HDt.out]
          exact set_law _ (Dk raw k) t.frm t.upto t.host _ w' ((OwnB.bnds HD3.out).frame (Plain.good _) (Agree.below hb')) (Dk_ok raw k (by omega)) (by have := HdL.out; omega)
        have Hd3 : Hid (Below V3.heap.size V3 V3.drew) := (Below.refl _ _).drew
        have HSd : Hid (S ≤ V3.drew.heap.size) := HS3.out
        have hk20 : k ≤ 1048576 := by omega
        clear hgr hck2
        go_upto_region 12 with fail
        go_cut [7] (fun s wx => ∃ a7 c7, s = .slice a7 (Dk raw (k + 1)).length c7 ∧ Hid (OwnB S wx (.slice a7 (Dk raw (k + 1)).length c7) (Dk raw (k + 1))) ∧ Hid (Below V3.heap.size V3 wx))
        case first =>
          go_region_with (first
            | (go_at_call 19; refine (KS.out _ Hd3.out).mono ?_; rintro e V ⟨v9, rfl, ho9, hb9⟩; obtain ⟨a9, c9, rfl⟩ := owns_slice ho9; have Ho9 := Lib.hid (own_base ho9 HSd.out); have Hb9 := Lib.hid (drew_below hb9); clear ho9 hb9))
          all_goals
            go_wp2_with fail
            go_meet
            exact ⟨a9, c9, rfl, Ho9, Hb9⟩
        case rest =>
          obtain ⟨a9, c9, rfl, HD5, hb5⟩ := hcut
          have HK5 : Hid (OwnS S wc (.slice a6 (Kk more raw k).length c6) (Kk more raw k)) := own_below HK3.out hb5.out
          have HG5 := Lib.hid (own_below HG3.out hb5.out)
          have Hb5 : Hid (Below S w wc) := Hb3.out.trans (hb5.out.mono HS3.out)
          have KV := Lib.hid (valid_law _ (Dk raw (k + 1)) _ wc (OwnB.bnds HD5.out))
          rw [Dk_ok raw (k + 1) (by omega)] at KV
          have HS5 : Hid (S ≤ wc.heap.size) := Nat.le_trans HS3.out hb5.out.size
          clear d0 d1 d2
          go_wp2_with fail
          refine KV.out.mono ?_
          rintro e w6 ⟨rfl, hb6⟩
          have HD6 : Hid (OwnB S w6 (.slice a9 (Dk raw (k + 1)).length c9) (Dk raw (k + 1))) := own_below HD5.out hb6
          have HK6 : Hid (OwnS S w6 (.slice a6 (Kk more raw k).length c6) (Kk more raw k)) := own_below HK5.out hb6
          have HG6 := Lib.hid (own_below HG5.out hb6)
          have Hb6 : Hid (Below S w w6) := Hb5.out.trans (hb6.mono HS5.out)
          have HS6 : Hid (S ≤ w6.heap.size) := Nat.le_trans HS5.out hb6.size
          obtain ⟨d0, d1, d2⟩ := HcV.out _ HG6.out
          clear hb6
          have HoQ := Lib.hid ((World.ownsRow.drew HK6.out).alloc (.cells #[str t.frm, str t.upto, str (t.frm ++ [97])] 9))
          have Hsx := Lib.hid (src_new (P := Try.prog) (w := w6.drew) (e := 9) (e' := 9) (tx := 43) (size := 1) (n := 3) Try.underlying43 #[str t.frm, str t.upto, str (t.frm ++ [97])] 3 rfl (by intro u hu; simp at hu; rcases hu with rfl | rfl | rfl <;> rfl))
          have HU : Hid (Below S w (w6.drew.alloc (.cells #[str t.frm, str t.upto, str (t.frm ++ [97])] 9))) := (Hb6.out.drew).alloc HS6.out _
          have HUs : Hid (S ≤ (w6.drew.alloc (.cells #[str t.frm, str t.upto, str (t.frm ++ [97])] 9)).heap.size) := by show S ≤ _; rw [← hS.out]; exact HU.out.size
          have HD7 : Hid (OwnB S (w6.drew.alloc (.cells #[str t.frm, str t.upto, str (t.frm ++ [97])] 9)) (.slice a9 (Dk raw (k + 1)).length c9) (Dk raw (k + 1))) := (World.ownsRow.drew HD6.out).alloc _
          have HG7 := Lib.hid ((World.ownsRow.drew HG6.out).alloc (.cells #[str t.frm, str t.upto, str (t.frm ++ [97])] 9))
          have hs17 : t.frm.length ≤ 16 := Htok.out.2.2.1
          have hcc : ¬ 9223372036854775807 < t.frm.length + 1 := by omega
          have e0 : w6.drew.cell? ⟨g, k * 3, none⟩ = some (str t.frm) := d0
          have e1 : w6.drew.cell? ⟨g, k * 3 + 1, none⟩ = some (str t.upto) := d1
          have HkL2 : (Kk more raw k).length ≤ 5000000 := by have := HkL.out; have := Hn2.out; omega
          go_upto_region 16 with fail
          go_region_law (refine step_append_src (by rfl) _ _ 43 43 (by rfl) S 9 _ 1 16 Try.underlying43 info_txt rfl _ _ _ (by rfl) HoQ.out _ _ _ (by rfl) Hsx.out (by unfold maxLen; omega) (by omega) HUs.out ?_; intro v1 w7 ho1 hg1; obtain ⟨a1, c1, rfl⟩ := owns_slice ho1; have HG8 := Lib.hid (HG7.out.kept hg1 (own_ne HG7.out HoQ.out (by decide))); have HD8 := Lib.hid (World.ownsRow.kept HD7.out hg1 (own_ne HD7.out HoQ.out (by decide))); have Ho8 := Lib.hid ho1; have Hb8 : Hid (Below S w w7) := HU.out.trans (below_own HoQ.out hg1 (Nat.le_refl _) HUs.out); clear ho1 hg1)
          all_goals
            have HKl : Hid ((Kk more raw (k + 1)).length = (Kk more raw k).length + 3) := by show _ = _; rw [HKt.out, List.length_append]; rfl
            have HK8 : Hid (OwnS S w7 (.slice a1 (Kk more raw (k + 1)).length c1) (Kk more raw (k + 1))) := by
              show w7.ownsRow _ _ _ _ _ _
              rw [HKl.out, HKt.out, List.flatMap_append]
              exact Ho8.out
            have HD9 : Hid (OwnB S w7 (.slice a9 (Dk raw (k + 1)).length c9) (Dk raw (k + 1))) := HD8.out
            go_wp2_with fail
            go_roundw
            case rel => exact ⟨k + 1, a1, c1, a9, c9, by go_num, by omega, by rw [HKl.out], rfl, HK8, HD9, HG8, Hb8⟩
            case measure => simp [intOf]; omega
      · obtain rfl : k = n := by omega
        have hall : Ck raw k = raw.map tame := by rw [Hnn.out]; exact Ck_all raw
        rw [hall] at hG
        clear hall
        go_wp2_with fail
        go_meet
        exact ⟨a6, c6, a7, c7, rfl, rfl, hK, hD, hG, hb⟩
  case rest =>
    clear HD4 HK4 HG4 HD3 HK3 HG3 KA KN
    obtain ⟨a6, c6, a7, c7, rfl, rfl, HK, HD, HG, Hb⟩ := hcut
    have HSc : Hid (S ≤ wc.heap.size) := by show S ≤ _; rw [← hS.out]; exact Hb.out.size
    have hKl := Kk_len more raw n (by rw [Hnn.out]; exact Nat.le_refl _)
    have hDl := Dk_len raw n (by rw [Hnn.out]; exact Nat.le_refl _)
    have hok := Dk_ok raw n (by rw [Hnn.out]; exact Nat.le_refl _)
    have hhost : ∀ key, hostOf key (Dk raw n) = wantP key (raw.map tame) := fun key => by
      have := Dk_host raw key n (by rw [Hnn.out]; exact Nat.le_refl _)
      rw [this, Hnn.out, List.take_length]
    have hK5 : (Kk more raw n).length ≤ 5000000 := by have := Hn2.out; omega
    have hD5 : (Dk raw n).length ≤ 5000000 := by omega
    have hGl : (raw.map tame).length = n := by rw [List.length_map, Hnn.out]
    obtain ⟨K, hKK⟩ := hide (Kk more raw n)
    obtain ⟨D, hDD⟩ := hide (Dk raw n)
    obtain ⟨G, hGG⟩ := hide (raw.map tame)
    rw [hKK.out] at HK hK5 ⊢
    rw [hDD.out] at HD hD5 hok hhost ⊢
    rw [hGG.out] at HG hhost hGl
    have Hok := Lib.hid hok
    have Hhost := Lib.hid hhost
    have HGl := Lib.hid hGl
    have HKx : Hid (∀ w', Below wc.heap.size wc w' → Txts (fun g => S ≤ g) w' (.slice a6 K.length c6) K) := fun w' hb' => (OwnS.txts HK.out).frame (Plain.good _) (Agree.below hb')
    have HDx : Hid (∀ w', Below wc.heap.size wc w' → Bnds (fun g => S ≤ g) w' (.slice a7 D.length c7) D) := fun w' hb' => (OwnB.bnds HD.out).frame (Plain.good _) (Agree.below hb')
    have HDo : Hid (∀ w', Below wc.heap.size wc w' → OwnB S w' (.slice a7 D.length c7) D) := fun w' hb' => own_below HD.out hb'
    have HGx : Hid (∀ w', Below wc.heap.size wc w' → w'.ownsRow S 46 3 (.slice a5 n c5) n (G.flatMap rowG)) := fun w' hb' => own_below HG.out hb'
    have HBW : Hid (∀ w', Below wc.heap.size wc w' → Below S w w') := fun w' hb' => Hb.out.trans (hb'.mono HSc.out)
    have HSw : Hid (∀ w', Below wc.heap.size wc w' → S ≤ w'.heap.size) := fun w' hb' => Nat.le_trans HSc.out hb'.size
    have KA : Hid (∀ x w', Below wc.heap.size wc w' → Calls Try.prog 25 #[.slice a7 D.length c7, str x] w' fun e w'' => e = .returned (.int .i64 (wantP x G)) ∧ Below w'.heap.size w' w'') := fun x w' hb' => by
      rw [← Hhost.out]
      exact at_law x _ D _ w' (HDx.out _ hb') Hok.out (by omega)
    clear hok hhost hKl hDl hGl HK HD HG
    go_wp2_with fail
    go_loopw [10] (fun i wr => ∃ k : Nat, i = .int .i64 k ∧ k ≤ K.length ∧ Hid (Below wc.heap.size wc wr)) (fun i _ => K.length - (intOf i).toNat)
    case atStart => exact ⟨0, rfl, Nat.zero_le _, Below.refl _ _⟩
    case round =>
      obtain ⟨k, rfl, hkK, hb⟩ := hrel
      by_cases hlt : k < K.length
      · obtain ⟨bx, offx, rfl, cx⟩ := Sl.one (HKx.out _ hb.out) hlt
        have Hcx : Hid (∀ w', Below wr.heap.size wr w' → w'.cell? ⟨bx, offx + k, none⟩ = some (str K[k])) := by
          intro w' hw'
          obtain ⟨b', off', e, c'⟩ := Sl.one (HKx.out _ (hb.out.trans (hw'.mono hb.out.size))) hlt
          injection e with e
          injection e with e1 e2
          rw [e1, e2, c']
        obtain ⟨x, hx⟩ := hide K[k]
        rw [hx.out] at Hcx
        have KA2 := Lib.hid (KA.out x)
        obtain ⟨T, hT⟩ := hide (fun j => wantP x (G.take j))
        have HT1 : Hid (∀ j (hj : j < G.length), T (j + 1) = if within x G[j].frm G[j].upto then G[j].host else T j) := by rw [← hT.out]; exact fun j hj => want_take x G hj
        have HTE : Hid (T n = wantP x G) := by
          show _ = _
          rw [← hT.out]
          show wantP x (G.take n) = _
          rw [List.take_of_length_le (by rw [HGl.out]; exact Nat.le_refl _)]
        have HT0 : Hid (T 0 = 1) := by rw [← hT.out]; rfl
        clear cx
        go_wp2_with fail
        go_loopw [11, 12] (fun s j w3 => ∃ m : Nat, j = .int .i64 m ∧ s = .int .i64 (T m) ∧ m ≤ n ∧ Hid (Below wr.heap.size wr w3)) (fun _ j _ => n - (intOf j).toNat)
        case atStart => exact ⟨0, rfl, by rw [HT0.out], Nat.zero_le _, Below.refl _ _⟩
        case round =>
          rename_i wq
          obtain ⟨m, rfl, rfl, hmn, hb3⟩ := hrel
          have hbq : Hid (Below wc.heap.size wc wr) := hb.out.trans (hb3.out.mono hb.out.size)
          by_cases hlt3 : m < n
          · have hmG : m < G.length := by rw [HGl.out]; exact hlt3
            have cx := Hcx.out _ hb3.out
            obtain ⟨g, hao⟩ : ∃ g, a5 = some ⟨g, 0, none⟩ := by
              rcases (HGx.out _ hbq.out).2 with ⟨hv, h0⟩ | ⟨g', cap', cur, hv, _⟩
              · omega
              · injection hv with e1; exact ⟨g', e1⟩
            subst hao
            obtain ⟨d0, d1, d2⟩ := own_three (HGx.out _ hbq.out) hmG
            have ht := HT1.out m hmG
            obtain ⟨y, hy⟩ := hide G[m]
            rw [hy.out] at d0 d1 d2 ht
            have Ht := Lib.hid ht
            have hwd : within x y.frm y.upto = (!(lt x y.frm) && (y.upto == [] || lt x y.upto)) := rfl
            have Hwd := Lib.hid hwd
            clear ht hwd
            cases h1 : Op.bytesLess x y.frm <;> cases h2 : (y.upto == []) <;> cases h3 : Op.bytesLess x y.upto
            all_goals
              have HT : Hid (T (m + 1) = if ((!(lt x y.frm) && (y.upto == [] || lt x y.upto)) : Bool) then y.host else T m) := by show _ = _; rw [Ht.out, Hwd.out]
              have HT2 := HT.out
              rw [show lt x y.frm = _ from h1, h2, show lt x y.upto = _ from h3] at HT2
              simp only [Bool.not_false, Bool.not_true, Bool.true_and, Bool.false_and, Bool.or_false, Bool.or_true, Bool.true_or, Bool.false_or, if_true, if_false, Bool.false_eq_true] at HT2
              have HT3 := Lib.hid HT2
              clear HT HT2
              go_wp2_with (go_quiet (fail))
              go_roundw
              case rel => exact ⟨m + 1, by go_num, by rw [HT3.out], by omega, below_drew' hb3.out _⟩
              case measure => simp [intOf]; omega
          · obtain rfl : m = n := by omega
            have cx := Hcx.out _ hb3.out
            have K2 := Lib.hid (KA2.out _ hbq.out)
            rw [HTE.out]
            go_wp2_with fail
            refine K2.out.mono ?_
            rintro e w5 ⟨rfl, hb5⟩
            have Hb5 : Hid (Below wc.heap.size wc w5) := hbq.out.trans (hb5.mono hbq.out.size)
            clear hb5
            go_wp2_with fail
            go_roundw
            case rel => exact ⟨k + 1, by go_num, by omega, Hb5⟩
            case measure => simp [intOf]; omega
      · obtain rfl : k = K.length := by omega
        clear KA
        have HdL : D.length ≤ 5000000 := hD5
        go_wp2_with fail
        go_loopw [13, 14] (fun s i w3 => ∃ m : Nat, ∃ a c, i = .int .i64 m ∧ m ≤ D.length ∧ s = .slice a D.length c ∧ Hid (OwnB S w3 (.slice a D.length c) D) ∧ Hid (Below wc.heap.size wc w3)) (fun _ i _ => D.length - (intOf i).toNat)
        case atStart => exact ⟨0, a7, c7, rfl, Nat.zero_le _, rfl, HDo.out _ hb.out, hb⟩
        case round =>
          rename_i wq
          obtain ⟨m, a8, c8, rfl, hmD, rfl, ho, hb3⟩ := hrel
          by_cases hlt3 : m < D.length
          · obtain ⟨bd, offd, rfl, d0, d1⟩ := Sl.two (HDx.out _ hb3.out) hlt3
            have HHas := Lib.hid (has_same Hok.out hlt3)
            have HSet := Lib.hid (set_same Hok.out hlt3)
            have KH : Hid (∀ w', Below wc.heap.size wc w' → Calls Try.prog 27 #[.slice (some ⟨bd, offd, none⟩) D.length c7, str D[m].frm, str (endOf D m), .int .i64 D[m].host] w' fun e w'' => e = .returned (.bool true) ∧ Below w'.heap.size w' w'') := fun w' hb' => by
              have := has_law _ D D[m].frm (endOf D m) D[m].host _ w' (HDx.out _ hb') Hok.out (by omega)
              rw [HHas.out] at this
              exact this
            have KS : Hid (∀ w' a c, Below wc.heap.size wc w' → OwnB S w' (.slice a D.length c) D → Calls Try.prog 19 #[.slice a D.length c, str D[m].frm, str (endOf D m), .int .i64 D[m].host] w' fun e w'' => ∃ v', e = .returned v' ∧ OwnB w'.heap.size w'' v' D ∧ Below w'.heap.size w' w'') := fun w' a c hb' ho' => by
              have := set_law _ D D[m].frm (endOf D m) D[m].host _ w' (OwnB.bnds ho') Hok.out (by omega)
              rw [HSet.out] at this
              exact this
            have hend : (m + 1 < D.length ∧ ∃ h : m + 1 < D.length, endOf D m = D[m + 1].frm) ∨ (¬ m + 1 < D.length ∧ endOf D m = []) := by
              by_cases h1 : m + 1 < D.length
              · exact Or.inl ⟨h1, h1, by unfold endOf; rw [List.getElem?_eq_getElem h1]⟩
              · exact Or.inr ⟨h1, by unfold endOf; rw [List.getElem?_eq_none (by omega)]⟩
            have Hend := Lib.hid hend
            have Hd := Lib.hid d0
            have Hm2 : Hid (m + 1 < D.length → ∀ h : m + 1 < D.length, wr.cell? ⟨bd, offd + (m + 1) * 2, none⟩ = some (str D[m + 1].frm)) := fun _ h => by
              obtain ⟨b', off', e, x0, _⟩ := Sl.two (HDx.out _ hb3.out) h
              injection e with e
              injection e with e1 e2
              rw [e1, e2]
              exact x0
            obtain ⟨E, hE⟩ := hide (endOf D m)
            obtain ⟨y, hy⟩ := hide D[m]
            rw [hE.out] at KH KS hend
            rw [hy.out] at KH KS d0 d1
            have HdC : Hid (∀ w', Below wc.heap.size wc w' → w'.cell? ⟨bd, offd + m * 2, none⟩ = some (str y.frm) ∧ w'.cell? ⟨bd, offd + m * 2 + 1, none⟩ = some (.int .i64 y.host)) := by
              intro w' hb'
              obtain ⟨b', off', e, x0, x1⟩ := Sl.two (HDx.out _ hb') hlt3
              injection e with e
              injection e with e1 e2
              rw [hy.out] at x0 x1
              rw [e1, e2]
              exact ⟨x0, x1⟩
            have hm5 : m ≤ 5000000 := by omega
            clear Hd
            go_upto_region 33 with fail
            have hend2 := Lib.hid hend
            clear hend Hend
            go_cut [15, 173] (fun s s173 wx => s = .string ⟨#[]⟩ ∧ s173 = .bool (decide ((m : Int) + 1 < (D.length : Int))) ∧ wr = wx)
            case first =>
              go_wp2_with fail
              go_meet
              exact ⟨rfl, rfl, rfl⟩
            case rest =>
              obtain ⟨rfl, rfl, rfl⟩ := hcut
              go_upto_if 173 with fail
              go_cut [15] (fun s wx => s = str E ∧ wr = wx)
              case first =>
                rcases hend2.out with ⟨h1, h2, h3⟩ | ⟨h1, h3⟩
                · have cm := Hm2.out h1 h2
                  rw [← h3] at cm
                  have t1 : decide ((m : Int) + 1 < (D.length : Int)) = true := decide_eq_true (by omega)
                  have t2 : (m : Int) + 1 < (D.length : Int) := by omega
                  have HE := Lib.hid h3
                  clear h3
                  go_wp2_with fail
                  go_meet
                  exact ⟨rfl, rfl⟩
                · have t1 : decide ((m : Int) + 1 < (D.length : Int)) = false := decide_eq_false (by omega)
                  have HE := Lib.hid h3
                  clear h3
                  go_wp2_with fail
                  go_meet
                  exact ⟨by rw [HE.out], rfl⟩
              case rest =>
                obtain ⟨rfl, rfl⟩ := hcut
                have Hd3 : Hid (Below wc.heap.size wc wr.drew) := hb3.out.drew
                go_upto_region 35 with fail
                go_cut [193] (fun s wx => s = .bool false ∧ Hid (Below wr.heap.size wr wx))
                case first =>
                  go_region_with (first
                    | (go_at_call 27; refine (KH.out _ Hd3.out).mono ?_; rintro e V ⟨rfl, hb9⟩; have Hb9 := Lib.hid (drew_below hb9); clear hb9))
                  all_goals
                    go_wp2_with fail
                    go_meet
                    exact ⟨rfl, Hb9⟩
                case rest =>
                  obtain ⟨rfl, hb4⟩ := hcut
                  have hbX : Hid (Below _ _ wc) := hb3.out.trans (hb4.out.mono hb3.out.size)
                  have ho4 := Lib.hid (own_below ho.out hb4.out)
                  obtain ⟨x0, x1⟩ := HdC.out _ hbX.out
                  have Hd4 : Hid (Below _ _ wc.drew) := hbX.out.drew
                  have ho5 := Lib.hid (World.ownsRow.drew ho4.out)
                  have HSd : Hid (S ≤ wc.drew.heap.size) := HSw.out _ Hd4.out
                  go_upto_region 37 with fail
                  go_region_with (first
                    | (go_at_call 19; refine (KS.out _ _ _ Hd4.out ho5.out).mono ?_; rintro e V ⟨v9, rfl, ho9, hb9⟩; obtain ⟨a9, c9, rfl⟩ := owns_slice ho9; have Ho9 := Lib.hid (own_base ho9 HSd.out); have Hb9 : Hid (Below _ _ V) := hbX.out.trans (Below.mono (drew_below hb9) hbX.out.size); clear ho9 hb9))
                  all_goals
                    go_wp2_with fail
                    go_roundw
                    case rel => exact ⟨m + 1, a9, c9, by go_num, by omega, rfl, Ho9, Hb9⟩
                    case measure => simp [intOf]; omega
          · obtain rfl : m = D.length := by omega
            go_wp2_with fail
            go_loopw [16] (fun i w5 => ∃ k : Nat, i = .int .i64 k ∧ k ≤ D.length ∧ Hid (Below wr.heap.size wr w5)) (fun i _ => D.length - (intOf i).toNat)
            case atStart => exact ⟨0, rfl, Nat.zero_le _, Below.refl _ _⟩
            case round =>
              obtain ⟨j, rfl, hjD, hb5⟩ := hrel
              have hb6 : Hid (Below wc.heap.size wc wr) := hb3.out.trans (hb5.out.mono hb3.out.size)
              by_cases hlt5 : j < D.length
              · obtain ⟨b, off, rfl, c0, c1⟩ := Sl.two (HDx.out _ hb6.out) hlt5
                obtain ⟨b', off', rfl, d0, d1⟩ := Sl.two (OwnB.bnds (own_below ho.out hb5.out)) hlt5
                obtain ⟨y, hy⟩ := hide D[j]
                rw [hy.out] at c0 c1 d0 d1
                go_wp2_with fail
                go_region
                have hb7 := Lib.hid hb5.out.drew
                go_wp2_with fail
                go_roundw
                case rel => exact ⟨j + 1, by go_num, by omega, hb7⟩
                case measure => simp [intOf]; omega
              · obtain rfl : j = D.length := by omega
                go_wp2_with fail
                go_ret
                refine ⟨rfl, ?_⟩
                rw [hS.out]
                exact HBW.out _ hb6.out
end Go.Proofs.Ytlknkhmhdmpdkaa
