/-
  DelegExact: the law's walk.
-/
import Derived.Test.YtlknkhmhdmpdkaaDj
namespace Go.Proofs.Ytlknkhmhdmpdkaa
open Go.RowKit Wm Mm Dg
set_option linter.unusedVariables false
set_option linter.unusedSimpArgs false

theorem known_set : setP [⟨[], 1⟩] [98] [100] 2 = [⟨[], 1⟩, ⟨[98], 2⟩, ⟨[100], 1⟩] := by decide
theorem known_ok : okB [⟨[], 1⟩] = true := by decide
theorem set_len (l : List BoundP) (fr up : List UInt8) (h : Int) : (setP l fr up h).length ≤ l.length + 2 := by
  unfold setP
  split
  · omega
  · rename_i hc
    have h1 := deleg_len (rawP l fr up h) []
    have h2 : (l.filter (fun b => lt b.frm fr)).length + ((l.take l.length).filter (fun b => up != [] && lt up b.frm)).length ≤ l.length := by
      refine filter_two l l.length (fun b hb1 hb2 => ?_)
      rw [Bool.and_eq_true] at hb2
      by_cases hu : up = []
      · rw [hu] at hb2; exact absurd hb2.1 (by decide)
      · cases e : lt fr up
        · exact hc ⟨hu, e⟩
        · have := lt_trans (lt_trans hb1 e) hb2.2
          rw [lt_irr] at this
          cases this
    rw [List.take_length] at h2
    have h3 : (rawP l fr up h).length ≤ l.length + 2 := by
      unfold rawP
      rw [List.length_append, List.length_cons, List.length_append]
      have : ((if up = [] then [] else [⟨up, hostOf up l⟩]) : List BoundP).length ≤ 1 := by split <;> simp
      omega
    simp only [List.length_nil, Nat.zero_add] at h1
    exact Nat.le_trans h1 h3

set_option maxHeartbeats 4000000 in
set_option maxRecDepth 100000 in
theorem law_delegExact (v : Value) (l : List BoundP) (fr up key : List UInt8) (h : Int) (F : Nat → Prop) (w : World) (hv : Bnds F w v l) (hn : l.length ≤ 5864062014634) :
    Calls Try.prog 4 #[v, str fr, str up, .int .i64 h, str key] w fun e w' => e = .returned (.bool true) ∧ Below w.heap.size w w' := by
  obtain ⟨ao, cap, rfl, hcap, hmax⟩ := hv.slice
  have HF : Hid (∀ w', Below w.heap.size w w' → Bnds F w' (.slice ao l.length cap) l) := fun w' hb => hv.frame (Plain.good _) (Agree.below hb)
  have Hn := Lib.hid hn
  have KN := Lib.hid (new_law 1 w)
  clear hv hmax
  go_enter Try.func4, Try.ntmps4
  go_wp2_with fail
  refine KN.out.mono ?_
  rintro e w1 ⟨v1, rfl, ho1, hb1⟩
  have KS := Lib.hid (set_law v1 [⟨[], 1⟩] [98] [100] 2 _ w1 ho1 known_ok (by decide))
  rw [known_set] at KS
  have Hb1 := Lib.hid hb1
  clear ho1 hb1
  go_wp2_with fail
  refine KS.out.mono ?_
  rintro e w2 ⟨v2, rfl, ho2, hb2⟩
  obtain ⟨a2, c2, rfl⟩ := owns_slice ho2
  have Hb2 : Hid (Below w.heap.size w w2) := Hb1.out.trans (hb2.mono Hb1.out.size)
  obtain ⟨b2, off2, rfl, c0, c1⟩ := Sl.two (OwnB.bnds ho2) (k := 1) (by decide)
  simp only [Nat.one_mul] at c0 c1
  have c0' : w2.cell? ⟨b2, off2 + 2, none⟩ = some (str [98]) := c0
  have c1' : w2.cell? ⟨b2, off2 + 2 + 1, none⟩ = some (.int .i64 2) := c1
  have KI := Lib.hid (isDelegation_law _ l F w2 (HF.out _ Hb2.out))
  obtain ⟨R, hR⟩ := hide (okB l)
  rw [hR.out] at KI
  clear c0 c1 ho2 hb2
  go_wp2_with fail
  refine KI.out.mono ?_
  rintro e w3 ⟨rfl, hb3⟩
  have Hb3 : Hid (Below w.heap.size w w3) := Hb2.out.trans (hb3.mono Hb2.out.size)
  have KV := Lib.hid (valid_law _ l F w3 (HF.out _ Hb3.out))
  rw [hR.out] at KV
  clear hb3 c0' c1'
  go_wp2_with fail
  refine KV.out.mono ?_
  rintro e w4 ⟨rfl, hb4⟩
  have Hb4 : Hid (Below w.heap.size w w4) := Hb3.out.trans (hb4.mono Hb3.out.size)
  clear hb4
  cases R
  · go_wp2_with fail
    go_ret
    exact ⟨rfl, Hb4.out⟩
  have hok : okB l = true := hR.out
  obtain ⟨S, hS⟩ := hide w4.heap.size
  have Hs := Lib.hid (src_sl (P := Try.prog) (tx := 32) rowB Try.underlying32 (by decide) rowB_len rowB_one (HF.out _ Hb4.out))
  have HS4 : Hid (S ≤ w4.heap.size) := by show _ ≤ _; rw [hS.out]; exact Nat.le_refl _
  have Hok := Lib.hid hok
  have hn2 : l.length + 1 ≤ 5864062014635 := by omega
  clear hok
  go_wp2_with (at_builtin; refine wpList_append_src rfl _ _ 32 32 rfl S 36 _ 2 24 Try.underlying32 info_bnd rfl _ _ _ rfl (World.ownsRow_nil w4 S 36 2) _ _ _ rfl Hs.out (by have := Hn.out; unfold maxLen; omega) (by have := Hn.out; omega) HS4.out ?_)
  intro v5 w5 ho5 hg5
  obtain ⟨a5, c5, rfl⟩ := owns_slice ho5
  have Ho5 := Lib.hid ho5
  have Hb5 : Hid (Below S w4 w5) := grown_fresh0 hg5 HS4.out
  have HS5 : Hid (S ≤ w5.heap.size) := Nat.le_trans HS4.out Hb5.out.size
  clear ho5 hg5
  go_wp2_with (at_builtin; refine wpList_push rfl _ _ 32 rfl S 36 _ 2 24 Try.underlying32 info_bnd rfl (by decide) _ _ _ rfl Ho5.out _ rfl rfl (by intro u hu; simp at hu; rcases hu with rfl | rfl <;> rfl) (by have := Hn.out; unfold maxLen; omega) (by have := Hn.out; omega) HS5.out ?_)
  intro v6 w6 ho6 hg6
  obtain ⟨a6, c6, rfl⟩ := owns_slice ho6
  have Hb6 : Hid (Below S w4 w6) := Hb5.out.trans (below_own Ho5.out hg6 (Nat.le_refl _) HS5.out)
  have Hbw6 : Hid (Below w.heap.size w w6) := Hb4.out.trans (Hb6.out.mono (by rw [← hS.out]; exact Hb4.out.size))
  obtain ⟨X, hX⟩ := hide (l ++ [⟨[], 99⟩])
  have HXl : Hid (X.length = l.length + 1) := by show _ = _; rw [← hX.out, List.length_append]; rfl
  have Ho6 : Hid (OwnB S w6 (.slice a6 X.length c6) X) := by
    show w6.ownsRow _ _ _ _ _ _
    rw [HXl.out, ← hX.out, List.flatMap_append]
    simpa using ho6
  have hXc : X.length ≤ c6 := by
    obtain ⟨_, _, e, h9, _⟩ := (OwnB.bnds Ho6.out).slice
    injection e with _ _ e3
    rw [e3]; exact h9
  have hlc : l.length ≤ c6 := by have := HXl.out; omega
  have p1 : (l.length : Int) ≤ (c6 : Int) := by omega
  have p2 : (l.length : Int) ≤ ((l.length + 1 : Nat) : Int) := by omega
  have Hin0 : Hid (Bnds (fun k => S ≤ k) w6 (.slice a6 l.length c6) l) := by
    have h9 := (OwnB.bnds Ho6.out).take (k := l.length) (by rw [HXl.out]; omega)
    have e : X.take l.length = l := by rw [← hX.out]; exact List.take_left
    rw [e] at h9
    exact h9
  have Hin : Hid (∀ w', Below w6.heap.size w6 w' → Bnds (fun k => S ≤ k) w' (.slice a6 l.length c6) l) := fun w' hb' => Hin0.out.frame (Plain.good _) (Agree.below hb')
  have HX6 : Hid (∀ w', Below w6.heap.size w6 w' → Bnds (fun k => S ≤ k) w' (.slice a6 X.length c6) X) := fun w' hb' => (OwnB.bnds Ho6.out).frame (Plain.good _) (Agree.below hb')
  have HF6 : Hid (∀ w', Below w6.heap.size w6 w' → Bnds F w' (.slice ao l.length cap) l) := fun w' hb' => HF.out _ (Hbw6.out.trans (hb'.mono Hbw6.out.size))
  have HBW : Hid (∀ w', Below w6.heap.size w6 w' → Below w.heap.size w w') := fun w' hb' => Hbw6.out.trans (hb'.mono Hbw6.out.size)
  have KS2 := Lib.hid (set_law _ l fr up h _ w6 Hin0.out Hok.out Hn.out)
  have hXX := HXl.out
  clear ho6 hg6
  go_wp2_with fail
  refine KS2.out.mono ?_
  rintro e w7 ⟨v7, rfl, ho7, hb7⟩
  obtain ⟨a7, c7, rfl⟩ := owns_slice ho7
  have Hb7 := Lib.hid hb7
  obtain ⟨S7, hS7⟩ := hide w6.heap.size
  rw [hS7.out] at ho7
  have Ho7 := Lib.hid ho7
  have KD := Lib.hid (delegate_law _ l fr up h F w7 (HF6.out _ Hb7.out) Hn.out)
  clear ho7 hb7
  go_wp2_with fail
  refine KD.out.mono ?_
  rintro e w8 ⟨v8, rfl, ho8, hb8⟩
  obtain ⟨a8, c8, rfl⟩ := owns_slice ho8
  have Hb8 : Hid (Below w6.heap.size w6 w8) := Hb7.out.trans (hb8.mono Hb7.out.size)
  have Ho8 := Lib.hid ho8
  have Ho78 := Lib.hid (own_below Ho7.out hb8)
  obtain ⟨A, hA⟩ := hide (setP l fr up h)
  have HAl : Hid (A.length ≤ l.length + 2) := by show _ ≤ _; rw [← hA.out]; exact set_len l fr up h
  rw [hA.out] at Ho78 ⊢
  clear ho8 hb8
  have hcmp : ∃ a9 c9 G, Hid (Bnds G w8 (.slice a9 A.length c9) A) ∧ (((!(up == []) && !(Op.bytesLess fr up)) = true ∧ a9 = ao ∧ c9 = cap ∧ A.length = l.length) ∨ ((!(up == []) && !(Op.bytesLess fr up)) = false ∧ a9 = a8 ∧ c9 = c8 ∧ A.length = (delegP l fr up h).length)) := by
    cases e : (!(up == []) && !(Op.bytesLess fr up))
    · have hr : up = [] ∨ lt fr up = true := by
        cases e1 : (up == [])
        · rw [e1] at e
          right
          cases e2 : lt fr up
          · rw [show Op.bytesLess fr up = false from e2] at e; cases e
          · rfl
        · exact Or.inl (by simpa using e1)
      have hAD : A = delegP l fr up h := by
        rw [← hA.out, ← set_deleg Hok.out hr h]
        unfold setP
        rw [if_neg (fun hh => by rcases hr with k | k; exact hh.1 k; rw [hh.2] at k; cases k)]
      exact ⟨a8, c8, _, by rw [hAD]; exact (OwnB.bnds Ho8.out), Or.inr ⟨rfl, rfl, rfl, by rw [hAD]⟩⟩
    · have hr : up ≠ [] ∧ lt fr up = false := by
        rw [Bool.and_eq_true] at e
        exact ⟨by simpa using e.1, by simpa using e.2⟩
      have hAl : A = l := by rw [← hA.out]; unfold setP; rw [if_pos hr]
      exact ⟨ao, cap, _, by rw [hAl]; exact HF6.out _ Hb8.out, Or.inl ⟨rfl, rfl, rfl, by rw [hAl]⟩⟩
  obtain ⟨a9, c9, G9, HA9, hcs⟩ := hcmp
  have KSB := Lib.hid (same_bnds _ _ A _ G9 w8 (OwnB.bnds Ho78.out) HA9.out)
  have KAT : Hid (∀ w', Below w6.heap.size w6 w' → Calls Try.prog 25 #[.slice a6 l.length c6, str key] w' fun e w'' => e = .returned (.int .i64 (hostOf key l)) ∧ Below w'.heap.size w' w'') := fun w' hb' => at_law key _ l _ w' (Hin.out _ hb') Hok.out (by omega)
  have KHO : Hid (∀ w', Below w6.heap.size w6 w' → Calls Try.prog 26 #[.slice ao l.length cap, str key] w' fun e w'' => e = .returned (.int .i64 (hostOf key l)) ∧ w' = w'') := fun w' hb' => hostOf_law key _ l _ w' (HF6.out _ hb')
  have KHA : Hid (∀ w', Below w6.heap.size w6 w' → Calls Try.prog 27 #[.slice a6 l.length c6, str fr, str up, .int .i64 h] w' fun e w'' => e = .returned (.bool (hasP l fr up h)) ∧ Below w'.heap.size w' w'') := fun w' hb' => has_law _ l fr up h _ w' (Hin.out _ hb') Hok.out (by omega)
  have KHL : Hid (∀ w', Below w6.heap.size w6 w' → Calls Try.prog 28 #[.slice ao l.length cap, str fr, str up, .int .i64 h] w' fun e w'' => e = .returned (.bool (hasP l fr up h)) ∧ Below w'.heap.size w' w'') := fun w' hb' => by rw [has_eq Hok.out]; exact hasAll_law _ l fr up h _ w' (HF6.out _ hb') Hn.out
  obtain ⟨H, hH⟩ := hide (hostOf key l)
  obtain ⟨Q, hQ⟩ := hide (hasP l fr up h)
  rw [hH.out] at KAT KHO
  rw [hQ.out] at KHA KHL
  have HS78 : Hid (S7 ≤ w8.heap.size) := by show _ ≤ _; rw [← hS7.out]; exact Hb8.out.size
  obtain ⟨b, hb⟩ := hide (!(up == []) && !(Op.bytesLess fr up))
  rw [hb.out] at hcs
  have Hcs := Lib.hid hcs
  clear hcs
  go_upto_region 13 with fail
  go_cut [67] (fun s wx => s = .bool b ∧ w8 = wx)
  case first =>
    have hb2 := hb.out
    cases e1 : (up == []) <;> cases e2 : Op.bytesLess fr up
    all_goals
      rw [e1, e2] at hb2
      simp only [Bool.not_false, Bool.not_true, Bool.true_and, Bool.false_and] at hb2
      subst hb2
      go_wp2_with fail
      go_meet
      exact ⟨rfl, rfl⟩
  case rest =>
    obtain ⟨rfl, rfl⟩ := hcut
    go_upto_if 67 with fail
    go_cut [16] (fun s wx => s = .slice a9 A.length c9 ∧ w8 = wx)
    case first =>
      rcases Hcs.out with ⟨hb1, rfl, rfl, hl⟩ | ⟨hb1, rfl, rfl, hl⟩
      all_goals
        subst hb1
        have Hl := Lib.hid hl
        clear hl
        go_wp2_with fail
        go_meet
        exact ⟨by rw [Hl.out], rfl⟩
    case rest =>
      obtain ⟨rfl, rfl⟩ := hcut
      go_wp2_with fail
      refine KSB.out.mono ?_
      rintro e w9 ⟨rfl, hb9⟩
      have Hb9 : Hid (Below w6.heap.size w6 w9) := Hb8.out.trans (hb9.mono Hb8.out.size)
      have Ho9 := Lib.hid (own_below Ho78.out hb9)
      have K1 := Lib.hid (KAT.out _ Hb9.out)
      clear hb9
      go_wp2_with fail
      refine K1.out.mono ?_
      rintro e w10 ⟨rfl, hb10⟩
      have Hb10 : Hid (Below w6.heap.size w6 w10) := Hb9.out.trans (hb10.mono Hb9.out.size)
      have Ho10 := Lib.hid (own_below Ho9.out hb10)
      have K2 := Lib.hid (KHO.out _ Hb10.out)
      clear hb10
      go_wp2_with fail
      refine K2.out.mono ?_
      rintro e w11 ⟨rfl, rfl⟩
      have K3 := Lib.hid (KHA.out _ Hb10.out)
      go_wp2_with fail
      refine K3.out.mono ?_
      rintro e w12 ⟨rfl, hb12⟩
      have Hb12 : Hid (Below w6.heap.size w6 w12) := Hb10.out.trans (hb12.mono Hb10.out.size)
      have Ho12 := Lib.hid (own_below Ho10.out hb12)
      have K4 := Lib.hid (KHL.out _ Hb12.out)
      clear hb12
      go_wp2_with fail
      refine K4.out.mono ?_
      rintro e w13 ⟨rfl, hb13⟩
      have Hb13 : Hid (Below w6.heap.size w6 w13) := Hb12.out.trans (hb13.mono Hb12.out.size)
      have Ho13 := Lib.hid (own_below Ho12.out hb13)
      have HAm : A.length ≤ 9223372036854775807 := by have := HAl.out; omega
      clear hb13
      go_wp2_with fail
      go_loopw [20] (fun i wr => ∃ k : Nat, ∃ ys : List Value, i = .int .i64 k ∧ k ≤ A.length ∧ Hid (wr.ownsRow S7 36 2 (.slice a7 A.length c7) A.length ys) ∧ Hid (Below w6.heap.size w6 wr)) (fun i _ => A.length - (intOf i).toNat)
      case atStart => exact ⟨0, _, rfl, Nat.zero_le _, Ho13, Hb13⟩
      case round =>
        obtain ⟨k, ys, rfl, hk, ho, hbr⟩ := hrel
        by_cases hlt : k < A.length
        · obtain ⟨g, hao⟩ : ∃ g, a7 = some ⟨g, 0, none⟩ := by
            rcases ho.out.2 with ⟨hv, h0⟩ | ⟨g', cap', cur, hv, _⟩
            · omega
            · injection hv with e1; exact ⟨g', e1⟩
          subst hao
          have hl := ho.out.1
          have hSg := (own_lt ho.out).2.2.1
          have u0 := own_cell ho.out (i := k * 2) (List.getElem?_eq_getElem (by omega))
          have u1 := own_cell ho.out (i := k * 2 + 1) (List.getElem?_eq_getElem (by omega))
          have f0 := own_free ho.out (k * 2)
          have f1 := own_free ho.out (k * 2 + 1)
          obtain ⟨y0, hy0⟩ := hide (ys[k * 2]'(by omega))
          obtain ⟨y1, hy1⟩ := hide (ys[k * 2 + 1]'(by omega))
          rw [hy0.out] at u0
          rw [hy1.out] at u1
          have Ho2 := Lib.hid (own_put (own_put ho.out (k * 2) (str [])) (k * 2 + 1) (.int .i64 (-7)))
          have Hg2 : Hid (Below w6.heap.size w6 ((wr.setCell ⟨g, k * 2, none⟩ (str [])).setCell ⟨g, k * 2 + 1, none⟩ (.int .i64 (-7)))) := (hbr.out.setCell (p := ⟨g, k * 2, none⟩) (by rw [hS7.out]; exact hSg) _).setCell (p := ⟨g, k * 2 + 1, none⟩) (by rw [hS7.out]; exact hSg) _
          clear hSg
          go_wp2_with fail
          go_roundw
          case rel => exact ⟨k + 1, _, by go_num, hlt, Ho2, Hg2⟩
          case measure => simp [intOf]; omega
        · have hkn : k = A.length := by omega
          subst hkn
          have HSr : Hid (S7 ≤ wr.heap.size) := by show _ ≤ _; rw [← hS7.out]; exact hbr.out.size
          go_wp2_with (at_builtin; refine wpList_push rfl _ _ 32 rfl S7 36 _ 2 24 Try.underlying32 info_bnd rfl (by decide) _ _ _ rfl ho.out _ rfl rfl (by intro u hu; simp at hu; rcases hu with rfl | rfl <;> rfl) (by have := HAl.out; have := Hn.out; unfold maxLen; omega) (by have := HAl.out; have := Hn.out; omega) HSr.out ?_)
          intro v14 w14 ho14 hg14
          have Hb14 : Hid (Below w6.heap.size w6 w14) := hbr.out.trans (below_own ho.out hg14 (by rw [hS7.out]; exact Nat.le_refl _) hbr.out.size)
          have K5 := Lib.hid (same_bnds _ _ l _ F w14 (Hin.out _ Hb14.out) (HF6.out _ Hb14.out))
          clear ho14 hg14
          go_wp2_with fail
          refine K5.out.mono ?_
          rintro e w15 ⟨rfl, hb15⟩
          have Hb15 : Hid (Below w6.heap.size w6 w15) := Hb14.out.trans (hb15.mono Hb14.out.size)
          have hXlt : l.length < X.length := by have := HXl.out; omega
          obtain ⟨bx, offx, rfl, x0, x1⟩ := Sl.two (HX6.out _ Hb15.out) hXlt
          have ex : X[l.length].host = 99 := by
            have h9 : X[l.length]? = some ⟨[], 99⟩ := by rw [← hX.out, List.getElem?_append_right (Nat.le_refl _), Nat.sub_self]; rfl
            rw [List.getElem?_eq_getElem hXlt] at h9
            rw [Option.some.inj h9]
          rw [ex] at x1
          have p3 : (l.length : Int) < ((l.length + 1 : Nat) : Int) := by omega
          have p4 : l.length < l.length + 1 := by omega
          clear hb15 ex x0
          go_wp2_with fail
          go_ret
          exact ⟨rfl, HBW.out _ Hb15.out⟩
end Go.Proofs.Ytlknkhmhdmpdkaa
