/-
  Files behind an act: the document's walk.
-/
import Derived.Test.YtlknkhmhdmpdkaaVe
namespace Go.Proofs.Ytlknkhmhdmpdkaa
open Go.RowKit Wm Mm Fl
set_option linter.unusedVariables false
set_option linter.unusedSimpArgs false

theorem seek_take (n : List UInt8) (l : List FileP) {k : Nat} (h : k < l.length) : seek n (l.take (k + 1)) = if l[k].nam = n then (l[k].dat, true) else seek n (l.take k) := by
  unfold seek
  rw [takeF_one l h, List.foldl_append]
  rfl
theorem outR_step (l0 l : List FileP) (a : ActP) {k : Nat} (h : k < l.length) : ((l.take (k + 1)).filter (keepR l0 a)).map (putR l0 a) = ((l.take k).filter (keepR l0 a)).map (putR l0 a) ++ if keepR l0 a l[k] then [putR l0 a l[k]] else [] := by
  rw [takeF_one l h, List.filter_append, List.map_append]
  congr 1
  by_cases hp : keepR l0 a l[k] = true
  · rw [if_pos hp]; simp [hp]
  · rw [if_neg hp]; simp [hp]

set_option maxHeartbeats 8000000 in
set_option maxRecDepth 100000 in
theorem refAct_law (a : ActP) (v : Value) (l : List FileP) (F : Nat → Prop) (w : World) (h : Fls F w v l) (hn : l.length ≤ 2000000) (hd : (seek a.nam l).1.length ≤ 2000000000000) (ha : a.dat.length ≤ 2000000000000) :
    Calls Try.prog 17 #[v, vAct a] w fun e w' => ∃ v', e = .returned v' ∧ OwnF w.heap.size w' v' (actR l a) ∧ Below w.heap.size w w' := by
  obtain ⟨post, HP⟩ := hide (fun (e : Ending) (w' : World) => ∃ v', e = .returned v' ∧ OwnF w.heap.size w' v' (actR l a) ∧ Below w.heap.size w w')
  rw [HP.out]
  obtain ⟨ao, cap, rfl, hcap, hmax⟩ := h.slice
  obtain ⟨W, hW⟩ := hide (w.alloc (.cells (oAct a) 26))
  obtain ⟨B, hB⟩ := hide w.heap.size
  have hbx : W.heap[B]? = some (.cells (oAct a) 26 (0, 0)) := by rw [← hW.out, ← hB.out]; exact hp_at _ _ rfl
  have hb0 : Below B w W := by rw [← hW.out, ← hB.out]; exact (Below.refl _ _).alloc (Nat.le_refl _) _
  have hWs : W.heap.size = B + 1 := by rw [← hW.out, ← hB.out]; simp
  have HF : Hid (∀ w', Below W.heap.size W w' → Fls F w' (.slice ao l.length cap) l) := fun w' hb => (h.frame (Plain.good _) (Agree.below (by rw [hB.out]; exact hb0))).frame (Plain.good _) (Agree.below hb)
  obtain ⟨S, hS⟩ := hide W.heap.size
  rw [hS.out] at HF
  have Hbox : Hid (∀ w', Below S W w' → w'.heap[B]? = some (.cells (oAct a) 26 (0, 0))) := fun w' hb => (hb.block B (by rw [← hS.out, hWs]; omega)).trans hbx
  have HBS : Hid (B < S) := by show _ < _; rw [← hS.out, hWs]; omega
  have HSW : Hid (∀ w', Below S W w' → S ≤ w'.heap.size) := fun w' hb => by have := hb.size; rw [hS.out] at this; exact this
  have Hfin : Hid (∀ e v' w', e = Ending.returned v' → OwnF S w' v' (actR l a) → Below S W w' → post e w') := by
    intro e v' w' he ho hb
    rw [← HP.out, hB.out]
    exact ⟨v', he, own_base ho (by have := HBS.out; omega), hb0.trans (hb.mono (by have := HBS.out; omega))⟩
  have Hd := Lib.hid hd
  have Ha := Lib.hid ha
  have Hn := Lib.hid hn
  have hm : l.length ≤ 2000000 := hn
  obtain ⟨T, hT⟩ := hide (fun k => seek a.nam (l.take k))
  have HT1 : Hid (∀ k (hk : k < l.length), T (k + 1) = if l[k].nam = a.nam then (l[k].dat, true) else T k) := by rw [← hT.out]; exact fun k hk => seek_take a.nam l hk
  have HTE : Hid (T l.length = seek a.nam l) := by show _ = _; rw [← hT.out]; simp only [List.take_length]
  clear h hbx hb0 hWs hd ha hn hmax
  go_enter Try.func17, Try.ntmps17
  go_upto_region 1 with fail
  rw [hW.out, hB.out]
  go_wp2_with fail
  go_loopw [6, 7, 8] (fun s6 s7 i wr => ∃ k : Nat, i = .int .i64 k ∧ k ≤ l.length ∧ s6 = str (T k).1 ∧ s7 = .bool (T k).2 ∧ Hid (Below S W wr)) (fun _ _ i _ => l.length - (intOf i).toNat)
  case atStart => exact ⟨0, rfl, Nat.zero_le _, by rw [← hT.out]; rfl, by rw [← hT.out]; rfl, Below.refl _ _⟩
  case round =>
    obtain ⟨k, rfl, hkl, rfl, rfl, hb⟩ := hrel
    by_cases hlt : k < l.length
    · obtain ⟨b, off, rfl, c0, c1⟩ := Sl.twoF (HF.out _ hb.out) hlt
      have hs := HT1.out k hlt
      obtain ⟨y, hy⟩ := hide l[k]
      rw [hy.out] at c0 c1 hs
      have x0 := Hbox.out _ hb.out
      have x2 := cell_n x0 1 (v := str a.nam) rfl
      clear x0
      cases hq : (y.nam == a.nam)
      · have HS : Hid (T (k + 1) = T k) := by show _ = _; rw [hs, if_neg (by simpa using hq)]
        clear hs
        go_wp2_with (go_quiet (fail))
        go_roundw
        case rel => exact ⟨k + 1, by go_num, by omega, by rw [HS.out], by rw [HS.out], below_drew' hb.out _⟩
        case measure => simp [intOf]; omega
      · have HS : Hid (T (k + 1) = (y.dat, true)) := by show _ = _; rw [hs, if_pos (by simpa using hq)]
        clear hs
        go_wp2_with (go_quiet (fail))
        go_roundw
        case rel => exact ⟨k + 1, by go_num, by omega, by rw [HS.out], by rw [HS.out], below_drew' hb.out _⟩
        case measure => simp [intOf]; omega
    · obtain rfl : k = l.length := by omega
      rw [HTE.out]
      have HdR : Hid (dataR l a = if a.what = 1 then a.dat else if a.what = 2 then (seek a.nam l).1 ++ a.dat else if a.what = 6 then cutP a.size (seek a.nam l).1 else (seek a.nam l).1) := rfl
      have Hkp : Hid (∀ f, keepR l a f = (!(f.nam == a.nam && (a.what == 7 || a.what == 4)) && !((seek a.nam l).2 && a.what == 4 && f.nam == a.to))) := fun f => rfl
      have HaR : Hid (actR l a = (l.filter (keepR l a)).map (putR l a) ++ (if (seek a.nam l).2 = false ∧ (a.what = 1 ∨ a.what = 2) then [⟨a.nam, dataR l a⟩] else []) ++ (if (seek a.nam l).2 = true ∧ a.what = 4 then [⟨a.to, (seek a.nam l).1⟩] else [])) := rfl
      have Hpt : Hid (∀ f, putR l a f = if f.nam = a.nam then ⟨f.nam, dataR l a⟩ else f) := fun f => rfl
      obtain ⟨D, hD⟩ := hide (dataR l a)
      rw [hD.out] at HdR HaR Hpt
      obtain ⟨tw, htw⟩ := hide (seek a.nam l)
      rw [htw.out] at HdR HaR Hkp Hd ⊢
      obtain ⟨was, there⟩ := tw
      have HdR2 : Hid (D = if a.what = 1 then a.dat else if a.what = 2 then was ++ a.dat else if a.what = 6 then cutP a.size was else was) := HdR
      have Hd2 : Hid (was.length ≤ 2000000000000) := Hd
      clear HdR Hd
      have x0 := Hbox.out _ hb.out
      have x1 := cell_n x0 0 (v := .int .i64 a.what) rfl
      have x4 := cell_n x0 3 (v := str a.dat) rfl
      have x5 := cell_n x0 4 (v := .int .i64 a.size) rfl
      clear x0
      go_upto_block 2 with fail
      go_cut [9] (fun s wx => s = str D ∧ wr = wx)
      case first =>
        by_cases b1 : a.what = 1
        · have t1 : (a.what == 1) = true := beq_iff_eq.2 b1
          have HD : Hid (D = a.dat) := by show _ = _; rw [HdR2.out, if_pos b1]
          clear b1
          go_wp2_with fail
          go_meet
          exact ⟨by rw [HD.out] <;> rfl, rfl⟩
        have t1 : (a.what == 1) = false := beq_eq_false_iff_ne.2 b1
        by_cases b2 : a.what = 2
        · have t2 : (a.what == 2) = true := beq_iff_eq.2 b2
          have HD : Hid (D = was ++ a.dat) := by show _ = _; rw [HdR2.out, if_neg b1, if_pos b2]
          have hcc : ¬ 9223372036854775807 < was.length + a.dat.length := by have := Ha.out; have := Hd2.out; omega
          clear b1 b2
          go_wp2_with fail
          go_meet
          exact ⟨by rw [HD.out] <;> rfl, rfl⟩
        have t2 : (a.what == 2) = false := beq_eq_false_iff_ne.2 b2
        by_cases b6 : a.what = 6
        · have t6 : (a.what == 6) = true := beq_iff_eq.2 b6
          have hD6 : D = cutP a.size was := by rw [HdR2.out, if_neg b1, if_neg b2, if_pos b6]
          clear b1 b2 b6
          by_cases s1 : a.size < 0
          · have s2 : decide (a.size < 0) = true := decide_eq_true s1
            have HD : Hid (D = []) := by
              show _ = _
              rw [hD6]
              unfold cutP
              rw [show (min (max a.size 0) (was.length : Int)).toNat = 0 from by omega]
              rfl
            by_cases s3 : 0 < was.length
            · have s4 : decide ((0 : Int) < (was.length : Int)) = true := decide_eq_true (by omega)
              have s5 : decide (0 < was.length) = true := decide_eq_true s3
              clear s1 s3 hD6
              go_wp2_with fail
              go_meet
              exact ⟨by rw [HD.out] <;> rfl, rfl⟩
            · have hw0 : was = [] := List.length_eq_zero_iff.1 (by omega)
              subst hw0
              clear s1 s3 hD6
              go_wp2_with fail
              go_meet
              exact ⟨by rw [HD.out] <;> rfl, rfl⟩
          · have s2 : decide (a.size < 0) = false := decide_eq_false s1
            by_cases s3 : a.size < (was.length : Int)
            · have s4 : decide (a.size < (was.length : Int)) = true := decide_eq_true s3
              obtain ⟨q, hq⟩ : ∃ q : Nat, a.size = (q : Int) := ⟨a.size.toNat, by omega⟩
              have HD : Hid (D = was.take q) := by
                show _ = _
                rw [hD6]
                unfold cutP
                rw [show (min (max a.size 0) (was.length : Int)).toNat = q from by omega]
              rw [hq] at s2 s4 x5
              have s5 : (q : Int) ≤ (was.length : Int) := by omega
              have s6 : decide (q < was.length) = true := decide_eq_true (by omega)
              have s7 : q ≤ was.length := by omega
              clear s1 s3 hD6 hq
              go_wp2_with fail
              go_meet
              exact ⟨by rw [HD.out] <;> rfl, rfl⟩
            · have s4 : decide (a.size < (was.length : Int)) = false := decide_eq_false s3
              have HD : Hid (D = was) := by
                show _ = _
                rw [hD6]
                unfold cutP
                exact List.take_of_length_le (by omega)
              clear s1 s3 hD6
              go_wp2_with fail
              go_meet
              exact ⟨by rw [HD.out] <;> rfl, rfl⟩
        · have t6 : (a.what == 6) = false := beq_eq_false_iff_ne.2 b6
          have HD : Hid (D = was) := by show _ = _; rw [HdR2.out, if_neg b1, if_neg b2, if_neg b6]
          clear b1 b2 b6
          go_wp2_with fail
          go_meet
          exact ⟨by rw [HD.out] <;> rfl, rfl⟩
      case rest =>
        obtain ⟨rfl, rfl⟩ := hcut
        obtain ⟨O, hO⟩ := hide (fun k => ((l.take k).filter (keepR l a)).map (putR l a))
        have HO1 : Hid (∀ k (hk : k < l.length), O (k + 1) = O k ++ if keepR l a l[k] then [putR l a l[k]] else []) := by rw [← hO.out]; exact fun k hk => outR_step l l a hk
        have HOE : Hid (O l.length = (l.filter (keepR l a)).map (putR l a)) := by show _ = _; rw [← hO.out]; simp only [List.take_length]
        have HOl : Hid (∀ k, (O k).length ≤ 2000000) := by
          rw [← hO.out]
          intro k
          show (((l.take k).filter (keepR l a)).map (putR l a)).length ≤ _
          rw [List.length_map]
          have h1 := List.length_filter_le (keepR l a) (l.take k)
          rw [List.length_take] at h1
          have := Hn.out
          omega
        clear x1 x4 x5
        go_wp2_with fail
        go_loopw [5, 11] (fun s5 i w3 => ∃ k : Nat, ∃ a8 c8, i = .int .i64 k ∧ k ≤ l.length ∧ s5 = .slice a8 (O k).length c8 ∧ Hid (OwnF S w3 (.slice a8 (O k).length c8) (O k)) ∧ Hid (Below S W w3)) (fun _ i _ => l.length - (intOf i).toNat)
        case atStart => exact ⟨0, none, 0, rfl, Nat.zero_le _, by rw [← hO.out]; rfl, by rw [← hO.out]; exact World.ownsRow_nil _ _ _ _, hb⟩
        case round =>
          clear hb
          obtain ⟨k, a8, c8, rfl, hkl, rfl, ho, hb⟩ := hrel
          by_cases hlt : k < l.length
          · obtain ⟨b, off, rfl, c0, c1⟩ := Sl.twoF (HF.out _ hb.out) hlt
            have hst := HO1.out k hlt
            obtain ⟨y, hy⟩ := hide l[k]
            rw [hy.out] at c0 c1 hst
            obtain ⟨V, hV⟩ := hide (wr.alloc (.cells #[str y.nam, str y.dat] 28))
            obtain ⟨C, hC⟩ := hide wr.heap.size
            have hcV : V.heap[C]? = some (.cells #[str y.nam, str y.dat] 28 (0, 0)) := by rw [← hV.out, ← hC.out]; exact hp_at _ _ rfl
            have HSr := Lib.hid (HSW.out _ hb.out)
            have HoV0 : Hid (OwnF S V (.slice a8 (O k).length c8) (O k)) := by show World.ownsRow _ _ _ _ _ _ _; rw [← hV.out]; exact ho.out.alloc _
            have HbV0 : Hid (Below S W V) := by show Below _ _ _; rw [← hV.out]; exact hb.out.alloc HSr.out _
            have HCS : Hid (S ≤ C) := by show _ ≤ _; rw [← hC.out]; exact HSr.out
            have Hne : Hid ((Value.slice a8 (O k).length c8).ownBlock = none ∨ (Value.slice a8 (O k).length c8).ownBlock ≠ some C) := by
              cases e : (Value.slice a8 (O k).length c8).ownBlock with
              | none => exact Or.inl rfl
              | some g =>
                refine Or.inr (fun e2 => ?_)
                injection e2 with e2
                have h2 := (ho.out.lt g e).2
                rw [hC.out] at h2
                omega
            have HLB := Lib.hid (HOl.out k)
            have z0 := Hbox.out _ HbV0.out
            have x2 := cell_n z0 1 (v := str a.nam) rfl
            have d0 := cell_n hcV 0 (v := str y.nam) rfl
            have d1 := cell_n hcV 1 (v := str y.dat) rfl
            have f1 := free_n hcV 1
            have hcV2 := setAll_at (xs := [str y.nam, str y.dat]) hcV [str y.nam, str D] rfl
            go_upto_region 26 with fail
            rw [hV.out, hC.out]
            cases he1 : (y.nam == a.nam)
            · go_upto_region 28 with fail
              have x1 := cell_n z0 0 (v := .int .i64 a.what) rfl
              have x3 := cell_n z0 2 (v := str a.to) rfl
              have HoV := HoV0
              have HbV := HbV0
              have HSV := Lib.hid (HSW.out _ HbV.out)
              clear z0 hcV hcV2
              have Hks : Hid (keepR l a y = (!(false && (a.what == 7 || a.what == 4)) && !(there && a.what == 4 && (y.nam == a.to)))) := by show _ = _; rw [Hkp.out, he1]
              have Hz : Hid (putR l a y = y) := by show _ = _; rw [Hpt.out, if_neg (by simpa using he1)]
              have t7' : (a.what == 7 || a.what == 4) = true ∨ (a.what == 7 || a.what == 4) = false := by cases (a.what == 7 || a.what == 4) <;> simp

              cases w7 : (a.what == 7) <;> cases w4 : (a.what == 4) <;> cases there <;> cases e2 : (y.nam == a.to)
              all_goals
                have Hk2 := Hks.out
                rw [w7, w4, e2] at Hk2
                simp only [Bool.not_false, Bool.not_true, Bool.true_and, Bool.false_and, Bool.and_false, Bool.and_true, Bool.or_false, Bool.or_true] at Hk2
                have HS : Hid (O (k + 1) = O k ++ if keepR l a y then [putR l a y] else []) := hst
                rw [Hk2, Hz.out] at HS
                have Hs2 := Lib.hid HS.out
                clear Hk2 HS t7'
                first
                | (go_wp2_with fail
                   go_roundw
                   case rel => exact ⟨k + 1, a8, c8, by go_num, by omega, by rw [Hs2.out]; simp, by (show OwnF _ _ _ _; rw [Hs2.out]; simpa using HoV.out), HbV⟩
                   case measure => simp [intOf]; omega)
                | (go_wp2_with (at_builtin; refine wpList_push rfl _ _ 23 rfl S 28 _ 2 32 Try.underlying23 info_fil rfl (by decide) _ _ _ rfl HoV.out _ rfl rfl (by intro u hu; simp at hu; rcases hu with hu | hu <;> (subst hu; rfl)) (by have := HLB.out; unfold maxLen; omega) (by have := HLB.out; omega) HSV.out ?_)
                   intro v5 w5 ho5 hg5
                   obtain ⟨a5, c5, rfl⟩ := owns_slice ho5
                   have Hs3 : Hid (O (k + 1) = O k ++ [y]) := by show _ = _; rw [Hs2.out]; rfl
                   have Ho5 : Hid (OwnF S w5 (.slice a5 (O (k + 1)).length c5) (O (k + 1))) := by
                     show w5.ownsRow _ _ _ _ _ _
                     rw [Hs3.out, List.length_append, List.flatMap_append]
                     exact ho5
                   have Hb5 : Hid (Below S W w5) := HbV.out.trans (below_own HoV.out hg5 (Nat.le_refl _) HSV.out)
                   clear ho5 hg5
                   go_wp2_with fail
                   go_roundw
                   case rel => exact ⟨k + 1, a5, c5, by go_num, by omega, by rw [Hs3.out, List.length_append]; rfl, Ho5, Hb5⟩
                   case measure => simp [intOf]; omega)
            · go_upto_region 28 with fail
              obtain ⟨V2, hV2⟩ := hide (V.setCell ⟨C, 1, none⟩ (str D))
              rw [hV2.out]
              have hcX : V2.heap[C]? = some (.cells #[str y.nam, str D] 28 (0, 0)) := by rw [← hV2.out, heap_setCell, if_pos rfl, hcV]; simp [storeIn]
              have HoV : Hid (OwnF S V2 (.slice a8 (O k).length c8) (O k)) := by show World.ownsRow _ _ _ _ _ _ _; rw [← hV2.out]; exact World.ownsRow.kept HoV0.out (grown_setCell V ⟨C, 1, none⟩ _) Hne.out
              have HbV : Hid (Below S W V2) := by show Below _ _ _; rw [← hV2.out]; exact HbV0.out.setCell (p := ⟨C, 1, none⟩) HCS.out _
              have HSV := Lib.hid (HSW.out _ HbV.out)
              have z1 := Hbox.out _ HbV.out
              clear x2 d0 d1 f1
              have d0 := cell_n hcX 0 (v := str y.nam) rfl
              have d1 := cell_n hcX 1 (v := str D) rfl
              have x1 := cell_n z1 0 (v := .int .i64 a.what) rfl
              have x2 := cell_n z1 1 (v := str a.nam) rfl
              have x3 := cell_n z1 2 (v := str a.to) rfl
              clear z0 z1 hcV hcV2 hcX
              have Hks : Hid (keepR l a y = (!(true && (a.what == 7 || a.what == 4)) && !(there && a.what == 4 && (y.nam == a.to)))) := by show _ = _; rw [Hkp.out, he1]
              have Hz : Hid (putR l a y = (⟨y.nam, D⟩ : FileP)) := by show _ = _; rw [Hpt.out, if_pos (by simpa using he1)]
              have t7' : (a.what == 7 || a.what == 4) = true ∨ (a.what == 7 || a.what == 4) = false := by cases (a.what == 7 || a.what == 4) <;> simp

              cases w7 : (a.what == 7) <;> cases w4 : (a.what == 4) <;> cases there <;> cases e2 : (y.nam == a.to)
              all_goals
                have Hk2 := Hks.out
                rw [w7, w4, e2] at Hk2
                simp only [Bool.not_false, Bool.not_true, Bool.true_and, Bool.false_and, Bool.and_false, Bool.and_true, Bool.or_false, Bool.or_true] at Hk2
                have HS : Hid (O (k + 1) = O k ++ if keepR l a y then [putR l a y] else []) := hst
                rw [Hk2, Hz.out] at HS
                have Hs2 := Lib.hid HS.out
                clear Hk2 HS t7'
                first
                | (go_wp2_with fail
                   go_roundw
                   case rel => exact ⟨k + 1, a8, c8, by go_num, by omega, by rw [Hs2.out]; simp, by (show OwnF _ _ _ _; rw [Hs2.out]; simpa using HoV.out), HbV⟩
                   case measure => simp [intOf]; omega)
                | (go_wp2_with (at_builtin; refine wpList_push rfl _ _ 23 rfl S 28 _ 2 32 Try.underlying23 info_fil rfl (by decide) _ _ _ rfl HoV.out _ rfl rfl (by intro u hu; simp at hu; rcases hu with hu | hu <;> (subst hu; rfl)) (by have := HLB.out; unfold maxLen; omega) (by have := HLB.out; omega) HSV.out ?_)
                   intro v5 w5 ho5 hg5
                   obtain ⟨a5, c5, rfl⟩ := owns_slice ho5
                   have Hs3 : Hid (O (k + 1) = O k ++ [(⟨y.nam, D⟩ : FileP)]) := by show _ = _; rw [Hs2.out]; rfl
                   have Ho5 : Hid (OwnF S w5 (.slice a5 (O (k + 1)).length c5) (O (k + 1))) := by
                     show w5.ownsRow _ _ _ _ _ _
                     rw [Hs3.out, List.length_append, List.flatMap_append]
                     exact ho5
                   have Hb5 : Hid (Below S W w5) := HbV.out.trans (below_own HoV.out hg5 (Nat.le_refl _) HSV.out)
                   clear ho5 hg5
                   go_wp2_with fail
                   go_roundw
                   case rel => exact ⟨k + 1, a5, c5, by go_num, by omega, by rw [Hs3.out, List.length_append]; rfl, Ho5, Hb5⟩
                   case measure => simp [intOf]; omega)
          · obtain rfl : k = l.length := by omega
            obtain ⟨X, hX⟩ := hide (O l.length)
            rw [hX.out] at ho ⊢
            have HaX : Hid (actR l a = X ++ (if there = false ∧ (a.what = 1 ∨ a.what = 2) then [⟨a.nam, D⟩] else []) ++ (if there = true ∧ a.what = 4 then [⟨a.to, was⟩] else [])) := by show _ = _; rw [HaR.out, ← HOE.out, hX.out]
            have HXl : Hid (X.length ≤ 2000000) := by show _ ≤ _; rw [← hX.out]; exact HOl.out _
            have z0 := Hbox.out _ hb.out
            have x1 := cell_n z0 0 (v := .int .i64 a.what) rfl
            have x2 := cell_n z0 1 (v := str a.nam) rfl
            have x3 := cell_n z0 2 (v := str a.to) rfl
            have HSr := Lib.hid (HSW.out _ hb.out)
            clear z0
            cases there
            · cases w1 : (a.what == 1) <;> cases w2 : (a.what == 2)
              all_goals
                have HA2 := HaX.out
                first
                | (have hno : ¬ (a.what = 1 ∨ a.what = 2) := by rintro (e | e) <;> simp [e] at w1 w2
                   rw [if_neg (fun h => hno h.2), if_neg (fun h => by cases h.1), List.append_nil, List.append_nil] at HA2
                   have HA3 := Lib.hid HA2
                   clear hno HA2
                   go_wp2_with fail
                   refine Hfin.out _ _ _ rfl ?_ hb.out
                   rw [HA3.out]
                   exact ho.out)
                | (have hyes : (a.what = 1 ∨ a.what = 2) := by simp at w1 w2; omega
                   rw [if_pos ⟨rfl, hyes⟩, if_neg (fun h => by cases h.1), List.append_nil] at HA2
                   have HA3 := Lib.hid HA2
                   clear hyes HA2
                   go_wp2_with (at_builtin; refine wpList_push rfl _ _ 23 rfl S 28 _ 2 32 Try.underlying23 info_fil rfl (by decide) _ _ _ rfl ho.out _ rfl rfl (by intro u hu; simp at hu; rcases hu with hu | hu <;> (subst hu; rfl)) (by have := HXl.out; unfold maxLen; omega) (by have := HXl.out; omega) HSr.out ?_)
                   intro v5 w5 ho5 hg5
                   obtain ⟨a5, c5, rfl⟩ := owns_slice ho5
                   have Ho5 : Hid (w5.ownsRow S 28 2 (.slice a5 (X.length + 1) c5) (X.length + 1) ((X ++ [(⟨a.nam, D⟩ : FileP)]).flatMap rowF)) := by
                     show w5.ownsRow _ _ _ _ _ _
                     rw [List.flatMap_append]
                     exact ho5
                   have Hb5 : Hid (Below S W w5) := hb.out.trans (below_own ho.out hg5 (Nat.le_refl _) HSr.out)
                   have Hl5 : Hid ((X ++ [(⟨a.nam, D⟩ : FileP)]).length = X.length + 1) := by show _ = _; rw [List.length_append]; rfl
                   clear ho5 hg5
                   go_wp2_with fail
                   refine Hfin.out _ _ _ rfl ?_ Hb5.out
                   rw [HA3.out]
                   show World.ownsRow _ _ _ _ _ _ _
                   rw [Hl5.out]
                   exact Ho5.out)
            · cases w4 : (a.what == 4)
              · have HA2 := HaX.out
                have hno : ¬ a.what = 4 := by intro e; simp [e] at w4
                rw [if_neg (fun h => by cases h.1), if_neg (fun h => hno h.2), List.append_nil, List.append_nil] at HA2
                have HA3 := Lib.hid HA2
                clear hno HA2
                go_wp2_with fail
                refine Hfin.out _ _ _ rfl ?_ hb.out
                rw [HA3.out]
                exact ho.out
              · have HA2 := HaX.out
                have hyes : a.what = 4 := by simpa using w4
                rw [if_neg (fun h => by cases h.1), if_pos ⟨rfl, hyes⟩, List.append_nil] at HA2
                have HA3 := Lib.hid HA2
                clear hyes HA2
                go_wp2_with (at_builtin; refine wpList_push rfl _ _ 23 rfl S 28 _ 2 32 Try.underlying23 info_fil rfl (by decide) _ _ _ rfl ho.out _ rfl rfl (by intro u hu; simp at hu; rcases hu with hu | hu <;> (subst hu; rfl)) (by have := HXl.out; unfold maxLen; omega) (by have := HXl.out; omega) HSr.out ?_)
                intro v5 w5 ho5 hg5
                obtain ⟨a5, c5, rfl⟩ := owns_slice ho5
                have Ho5 : Hid (w5.ownsRow S 28 2 (.slice a5 (X.length + 1) c5) (X.length + 1) ((X ++ [(⟨a.to, was⟩ : FileP)]).flatMap rowF)) := by
                  show w5.ownsRow _ _ _ _ _ _
                  rw [List.flatMap_append]
                  exact ho5
                have Hb5 : Hid (Below S W w5) := hb.out.trans (below_own ho.out hg5 (Nat.le_refl _) HSr.out)
                have Hl5 : Hid ((X ++ [(⟨a.to, was⟩ : FileP)]).length = X.length + 1) := by show _ = _; rw [List.length_append]; rfl
                clear ho5 hg5
                go_wp2_with fail
                refine Hfin.out _ _ _ rfl ?_ Hb5.out
                rw [HA3.out]
                show World.ownsRow _ _ _ _ _ _ _
                rw [Hl5.out]
                exact Ho5.out
end Go.Proofs.Ytlknkhmhdmpdkaa
