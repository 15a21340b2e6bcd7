/-
  WorldActs: the law's walk.
-/
import Derived.Test.YtlknkhmhdmpdkaaVf
namespace Go.Proofs.Ytlknkhmhdmpdkaa
open Go.RowKit Wm Mm Fl
set_option linter.unusedVariables false
set_option linter.unusedSimpArgs false

abbrev rowA (a : ActP) : List Value := [.int .i64 a.what, str a.nam, str a.to, str a.dat, .int .i64 a.size]
abbrev Acts (F : Nat → Prop) (w : World) (v : Value) (l : List ActP) : Prop := Sl 5 (Plain rowA) F w v l
def filesP (acts : List ActP) (k : Nat) : List FileP := (acts.take k).foldl actW []
theorem filesP_step (acts : List ActP) {k : Nat} (h : k < acts.length) : filesP acts (k + 1) = actW (filesP acts k) acts[k] := by
  unfold filesP
  rw [List.take_add_one, List.getElem?_eq_getElem h, List.foldl_append]
  rfl
theorem filesP_apart (acts : List ActP) : ∀ k, k ≤ acts.length → Apart (filesP acts k)
  | 0, _ => by unfold filesP; exact List.Pairwise.nil
  | k + 1, h => by rw [filesP_step acts (by omega)]; exact apart_act (filesP_apart acts k (by omega)) _
theorem filesP_len (acts : List ActP) : ∀ k, k ≤ acts.length → (filesP acts k).length ≤ k
  | 0, _ => by unfold filesP; simp
  | k + 1, h => by
    rw [filesP_step acts (by omega)]
    have h1 := act_len (filesP acts k) acts[k]
    have h2 := filesP_len acts k (by omega)
    omega
theorem filesP_short (acts : List ActP) {C : Nat} (hC : ∀ a ∈ acts, a.dat.length ≤ C) : ∀ k, k ≤ acts.length → Short (k * C) (filesP acts k)
  | 0, _ => by unfold filesP; intro f hf; cases hf
  | k + 1, h => by
    rw [filesP_step acts (by omega), Nat.succ_mul]
    exact short_act (filesP_short acts hC k (by omega)) _ (hC _ (List.getElem_mem _))
theorem known_act : actW [] ⟨1, [97], [], [98, 99], 0⟩ = [⟨[97], [98, 99]⟩] := by decide

set_option maxHeartbeats 8000000 in
set_option maxRecDepth 100000 in
theorem law_worldActs (v : Value) (acts : List ActP) (F : Nat → Prop) (w : World) (hv : Acts F w v acts) (hn : acts.length ≤ 1048576) (hC : ∀ a ∈ acts, a.dat.length ≤ 1048576) :
    Calls Try.prog 3 #[v] w fun e w' => e = .returned (.bool true) ∧ Below w.heap.size w w' := by
  obtain ⟨ao, cap, rfl, hcap, hmax⟩ := hv.slice
  have HF : Hid (∀ w', Below w.heap.size w w' → Acts F w' (.slice ao acts.length cap) acts) := fun w' hb => hv.frame (Plain.good _) (Agree.below hb)
  have Hn := Lib.hid hn
  have HC := Lib.hid hC
  have KA := Lib.hid (act_law ⟨1, [97], [], [98, 99], 0⟩ (.slice none 0 0) [] (fun _ => True) w (Sl.nil _ _ _ _) (by decide) (by decide) (by decide))
  rw [known_act] at KA
  clear hv hC hmax
  go_enter Try.func3, Try.ntmps3
  go_wp2_with fail
  refine KA.out.mono ?_
  rintro e w1 ⟨v1, rfl, ho1, hb1⟩
  obtain ⟨a1, c1, rfl⟩ := owns_slice ho1
  obtain ⟨b, off, rfl, c0, c1'⟩ := Sl.twoF (OwnF.fls ho1) (k := 0) (by decide)
  simp only [Nat.zero_mul, Nat.add_zero] at c0 c1'
  have d0 : w1.cell? ⟨b, off, none⟩ = some (str [97]) := c0
  have d1 : w1.cell? ⟨b, off + 1, none⟩ = some (str [98, 99]) := c1'
  have Hb1 := Lib.hid hb1
  clear c0 c1' ho1 hb1
  obtain ⟨S, hS⟩ := hide w.heap.size
  have HSw : Hid (∀ w', Below S w w' → S ≤ w'.heap.size) := fun w' hb => by have := hb.size; rw [hS.out] at this; exact this
  rw [hS.out] at HF Hb1
  have hm : acts.length ≤ 1048576 := hn
  clear hn
  go_wp2_with fail
  go_loopw [4, 5, 6] (fun s4 s5 i wr => ∃ k : Nat, ∃ a4 c4 a5 c5, i = .int .i64 k ∧ k ≤ acts.length ∧ s4 = .slice a4 (filesP acts k).length c4 ∧ s5 = .slice a5 (filesP acts k).length c5 ∧ Hid (Fls (fun g => S ≤ g) wr (.slice a4 (filesP acts k).length c4) (filesP acts k)) ∧ Hid (Fls (fun g => S ≤ g) wr (.slice a5 (filesP acts k).length c5) (filesP acts k)) ∧ Hid (Below S w wr)) (fun _ _ i _ => acts.length - (intOf i).toNat)
  case atStart => exact ⟨0, none, 0, none, 0, rfl, Nat.zero_le _, rfl, rfl, Sl.nil _ _ _ _, Sl.nil _ _ _ _, Hb1⟩
  case round =>
    obtain ⟨k, a4, c4, a5, c5, rfl, hkn, rfl, rfl, hx, hy, hb⟩ := hrel
    by_cases hlt : k < acts.length
    · have hL := filesP_len acts k hkn
      have KF := Lib.hid (filesOf_law _ (filesP acts k) _ wr hx.out (by omega))
      have hsh := filesP_short acts HC.out k hkn
      have hap := filesP_apart acts k hkn
      have hst := filesP_step acts hlt
      have hL1 := filesP_len acts (k + 1) (by omega)
      have hk20 : k * 1048576 ≤ 1099511627776 := by omega
      have hdat := short_dat hsh acts[k].nam
      have ha := HC.out acts[k] (List.getElem_mem hlt)
      obtain ⟨y, hy'⟩ := hide acts[k]
      rw [hy'.out] at hst hdat ha
      have hseek := seek_eq y.nam hap
      have hact := act_eq hap y
      rw [← hst] at hact
      obtain ⟨L, hLL⟩ := hide (filesP acts k)
      obtain ⟨L1, hLL1⟩ := hide (filesP acts (k + 1))
      rw [hLL.out] at hx hy KF hL hst hdat hseek hact ⊢
      rw [hLL1.out] at hst hact hL1
      have HL1 := Lib.hid hLL1.out
      have Hact := Lib.hid hact
      have Hst := Lib.hid hst.symm
      have hsk : (seek y.nam L).1.length ≤ 2000000000000 := by rw [hseek]; show (datOf y.nam L).length ≤ _; omega
      have HSr := Lib.hid (HSw.out _ hb.out)
      clear hact hst hseek hsh hap
      go_wp2_with fail
      refine KF.out.mono ?_
      rintro e w2 ⟨v2, rfl, ho2, hb2⟩
      obtain ⟨a7, c7, rfl⟩ := owns_slice ho2
      have Hb2 : Hid (Below S w w2) := hb.out.trans (hb2.mono HSr.out)
      have Ho2 := Lib.hid ho2
      have HS2 := Lib.hid (HSw.out _ Hb2.out)
      have hx2 := Lib.hid (hx.out.frame (Plain.good _) (Agree.below hb2))
      have hy2 := Lib.hid (hy.out.frame (Plain.good _) (Agree.below hb2))
      have KA2 := Lib.hid (act_law y _ L _ w2 (OwnF.fls ho2) (by omega) (by omega) (by omega))
      rw [Hst.out] at KA2
      obtain ⟨bb, oo, us, rfl, _, _, hus, hcs⟩ := (HF.out _ Hb2.out).at hlt
      have hus' : us = rowA acts[k] := hus
      rw [hy'.out] at hus'
      subst hus'
      have e0 := hcs 0 _ rfl
      have e1 := hcs 1 _ rfl
      have e2 := hcs 2 _ rfl
      have e3 := hcs 3 _ rfl
      have e4 := hcs 4 _ rfl
      rw [Nat.add_zero] at e0
      clear ho2 hb2 hcs hus
      go_wp2_with fail
      refine KA2.out.mono ?_
      rintro e w3 ⟨v3, rfl, ho3, hb3⟩
      obtain ⟨a8, c8, rfl⟩ := owns_slice ho3
      have Hb3 : Hid (Below S w w3) := Hb2.out.trans (hb3.mono HS2.out)
      have HS3 := Lib.hid (HSw.out _ Hb3.out)
      have H23 : Hid (w2.heap.size ≤ w3.heap.size) := hb3.size
      have Ho3 := Lib.hid ho3
      have Hin3 := Lib.hid (own_below Ho2.out hb3)
      have hx3 := Lib.hid (hx2.out.frame (Plain.good _) (Agree.below hb3))
      have KR := Lib.hid (refAct_law y _ L _ w3 (hy2.out.frame (Plain.good _) (Agree.below hb3)) (by omega) hsk (by omega))
      rw [Hact.out] at KR
      obtain ⟨b9, o9, us9, ee, _, _, hus9, hcs9⟩ := (HF.out _ Hb3.out).at hlt
      injection ee with ee
      injection ee with ee1 ee2
      subst ee1 ee2
      have hus9' : us9 = rowA acts[k] := hus9
      rw [hy'.out] at hus9'
      subst hus9'
      clear e0 e1 e2 e3 e4
      have e0 := hcs9 0 _ rfl
      have e1 := hcs9 1 _ rfl
      have e2 := hcs9 2 _ rfl
      have e3 := hcs9 3 _ rfl
      have e4 := hcs9 4 _ rfl
      rw [Nat.add_zero] at e0
      clear ho3 hb3 hcs9 hus9
      go_wp2_with fail
      refine KR.out.mono ?_
      rintro e w4 ⟨v4, rfl, ho4, hb4⟩
      obtain ⟨a9, c9, rfl⟩ := owns_slice ho4
      have Hb4 : Hid (Below S w w4) := Hb3.out.trans (hb4.mono HS3.out)
      have HS4 := Lib.hid (HSw.out _ Hb4.out)
      have Ho4 := Lib.hid ho4
      have Hin4 := Lib.hid (own_below Hin3.out hb4)
      have Ha4 := Lib.hid (own_below Ho3.out hb4)
      have hx4 := Lib.hid (hx3.out.frame (Plain.good _) (Agree.below hb4))
      have KS := Lib.hid (same_fls _ _ L1 _ _ w4 (OwnF.fls Ha4.out) (OwnF.fls ho4))
      clear ho4 hb4 e0 e1 e2 e3 e4
      go_wp2_with fail
      refine KS.out.mono ?_
      rintro e w5 ⟨rfl, hb5⟩
      have Hb5 : Hid (Below S w w5) := Hb4.out.trans (hb5.mono HS4.out)
      have HS5 := Lib.hid (HSw.out _ Hb5.out)
      have Hin5 := Lib.hid (own_below Hin4.out hb5)
      have KS2 := Lib.hid (same_fls _ _ L _ _ w5 (OwnF.fls Hin5.out) (hx4.out.frame (Plain.good _) (Agree.below hb5)))
      have Ha5 := Lib.hid (own_below Ha4.out hb5)
      have Hr5 := Lib.hid (own_below Ho4.out hb5)
      clear hb5
      go_wp2_with fail
      refine KS2.out.mono ?_
      rintro e w6 ⟨rfl, hb6⟩
      have Hb6 : Hid (Below S w w6) := Hb5.out.trans (hb6.mono HS5.out)
      have Hin6 := Lib.hid (own_below Hin5.out hb6)
      have Ha6 := Lib.hid (own_below Ha5.out hb6)
      have Hr6 := Lib.hid (own_below Hr5.out hb6)
      clear hb6
      obtain ⟨R, hR⟩ := hide wr.heap.size
      obtain ⟨N2, hN2⟩ := hide w2.heap.size
      have HRS : Hid (S ≤ R) := by show _ ≤ _; rw [← hR.out]; exact HSr.out
      have Hlow : Hid (∀ g, (Value.slice a7 L.length c7).ownBlock = some g → R ≤ g ∧ g < N2) := fun g hg => by have := Ho2.out.lt g hg; rw [hR.out, hN2.out] at this; exact this
      have HA6 : Hid (Fls (fun g => N2 ≤ g) w6 (.slice a8 L1.length c8) L1) := by rw [← hN2.out]; exact OwnF.fls Ha6.out
      have HR6 : Hid (Fls (fun g => N2 ≤ g) w6 (.slice a9 L1.length c9) L1) := Sl.weak (Plain.good _) (OwnF.fls Hr6.out) (fun g h1 _ => by have h7 := H23.out; rw [hN2.out] at h7; exact Nat.le_trans h7 h1)
      rw [hR.out] at Hin6
      have hLm : L.length ≤ 1048576 := by omega
      go_wp2_with fail
      go_loopw [12] (fun i wz => ∃ m : Nat, ∃ ys : List Value, i = .int .i64 m ∧ m ≤ L.length ∧ Hid (wz.ownsRow R 28 2 (.slice a7 L.length c7) L.length ys) ∧ Hid (Fls (fun g => N2 ≤ g) wz (.slice a8 L1.length c8) L1) ∧ Hid (Fls (fun g => N2 ≤ g) wz (.slice a9 L1.length c9) L1) ∧ Hid (Below S w wz)) (fun i _ => L.length - (intOf i).toNat)
      case atStart => exact ⟨0, _, rfl, Nat.zero_le _, Hin6, HA6, HR6, Hb6⟩
      case round =>
        obtain ⟨m, ys, rfl, hmL, ho, hfa, hfr, hbz⟩ := hrel
        by_cases hlt5 : m < L.length
        · obtain ⟨g, hao⟩ : ∃ g, a7 = some ⟨g, 0, none⟩ := by
            rcases ho.out.2 with ⟨hv, h0⟩ | ⟨g', cap', cur, hv, _⟩
            · omega
            · injection hv with e1; exact ⟨g', e1⟩
          subst hao
          have hg := Hlow.out g rfl
          have hl := ho.out.1
          have u0 := own_cell ho.out (i := m * 2) (List.getElem?_eq_getElem (by omega))
          have u1 := own_cell ho.out (i := m * 2 + 1) (List.getElem?_eq_getElem (by omega))
          have f0 := own_free ho.out (m * 2)
          have f1 := own_free ho.out (m * 2 + 1)
          obtain ⟨y0, hy0⟩ := hide (ys[m * 2]'(by omega))
          obtain ⟨y1, hy1⟩ := hide (ys[m * 2 + 1]'(by omega))
          rw [hy0.out] at u0
          rw [hy1.out] at u1
          have Ho7 := Lib.hid (own_put (own_put ho.out (m * 2) (str [111, 118, 101, 114])) (m * 2 + 1) (str []))
          have hag : ∀ (W1 : World) (o : Nat) (u : Value), Agree (fun g => N2 ≤ g) W1 (W1.setCell ⟨g, o, none⟩ u) := fun W1 o u => Agree.setCell W1 (by show ¬ N2 ≤ g; omega) u
          have Hfa7 := Lib.hid (hfa.out.frame (Plain.good _) ((hag _ (m * 2) (str [111, 118, 101, 114])).trans (hag _ (m * 2 + 1) (str []))))
          have Hfr7 := Lib.hid (hfr.out.frame (Plain.good _) ((hag _ (m * 2) (str [111, 118, 101, 114])).trans (hag _ (m * 2 + 1) (str []))))
          have Hb7 := Lib.hid ((hbz.out.setCell (p := ⟨g, m * 2, none⟩) (Nat.le_trans HRS.out hg.1) (str [111, 118, 101, 114])).setCell (p := ⟨g, m * 2 + 1, none⟩) (Nat.le_trans HRS.out hg.1) (str []))
          clear hg hag
          go_wp2_with fail
          go_roundw
          case rel => exact ⟨m + 1, _, by go_num, by omega, Ho7, Hfa7, Hfr7, Hb7⟩
          case measure => simp [intOf]; omega
        · obtain rfl : m = L.length := by omega
          have HSz := Lib.hid (HSw.out _ hbz.out)
          have hoS := Lib.hid (own_base ho.out HRS.out)
          go_wp2_with (at_builtin; refine wpList_push rfl _ _ 23 rfl S 28 _ 2 32 Try.underlying23 info_fil rfl (by decide) _ _ _ rfl hoS.out _ rfl rfl (by intro u hu; simp at hu; rcases hu with hu | hu <;> (subst hu; rfl)) (by unfold maxLen; omega) (by omega) HSz.out ?_)
          intro v9 w9 ho9 hg9
          have hag : Agree (fun g => N2 ≤ g) wr w9 := Agree.grown hg9 (fun g h1 _ e => by have := (Hlow.out g e.symm).2; omega)
          have Hb9 : Hid (Below S w w9) := hbz.out.trans (below_own hoS.out hg9 (Nat.le_refl _) HSz.out)
          have Hfa9 := Lib.hid (hfa.out.frame (Plain.good _) hag)
          have Hfr9 := Lib.hid (hfr.out.frame (Plain.good _) hag)
          have KS3 := Lib.hid (same_fls _ _ L1 _ _ w9 Hfa9.out Hfr9.out)
          have HS9 := Lib.hid (HSw.out _ Hb9.out)
          clear ho9 hg9 hag
          go_wp2_with fail
          refine KS3.out.mono ?_
          rintro e wf ⟨rfl, hbf⟩
          have Hbf : Hid (Below S w wf) := Hb9.out.trans (hbf.mono HS9.out)
          have HSN : Hid (S ≤ N2) := by show _ ≤ _; rw [← hN2.out]; exact HS2.out
          have Hxf : Hid (Fls (fun g => S ≤ g) wf (.slice a8 (filesP acts (k + 1)).length c8) (filesP acts (k + 1))) := by
            show Fls _ _ _ _
            rw [HL1.out]
            exact Sl.weak (Plain.good _) (Hfa9.out.frame (Plain.good _) (Agree.below hbf)) (fun g h1 _ => Nat.le_trans HSN.out h1)
          have Hyf : Hid (Fls (fun g => S ≤ g) wf (.slice a9 (filesP acts (k + 1)).length c9) (filesP acts (k + 1))) := by
            show Fls _ _ _ _
            rw [HL1.out]
            exact Sl.weak (Plain.good _) (Hfr9.out.frame (Plain.good _) (Agree.below hbf)) (fun g h1 _ => Nat.le_trans HSN.out h1)
          clear hbf
          go_wp2_with fail
          go_roundw
          case rel => exact ⟨k + 1, a8, c8, a9, c9, by go_num, by omega, by rw [HL1.out], by rw [HL1.out], Hxf, Hyf, Hbf⟩
          case measure => simp [intOf]; omega
    · go_wp2_with fail
      go_ret
      rw [hS.out]
      exact ⟨rfl, hb.out⟩
end Go.Proofs.Ytlknkhmhdmpdkaa
