/-
  Bounds of keys: the keys of a range are given to a host.
-/
import Derived.Test.YtlknkhmhdmpdkaaDf
namespace Go.Proofs.Ytlknkhmhdmpdkaa
open Go.RowKit Wm Mm Dg
set_option linter.unusedVariables false
set_option linter.unusedSimpArgs false

theorem filter_step (p : BoundP → Bool) (l : List BoundP) {k : Nat} (h : k < l.length) : (l.take (k + 1)).filter p = (l.take k).filter p ++ if p l[k] then [l[k]] else [] := by
  have e : l.take (k + 1) = l.take k ++ [l[k]] := by rw [List.take_add_one, List.getElem?_eq_getElem h]; rfl
  rw [e, List.filter_append]
  congr 1
  by_cases hp : p l[k] = true
  · rw [if_pos hp]; simp [hp]
  · rw [if_neg hp]; simp [hp]
theorem filter_le (p : BoundP → Bool) (l : List BoundP) (k : Nat) : ((l.take k).filter p).length ≤ l.length := Nat.le_trans (List.length_filter_le _ _) (by rw [List.length_take]; omega)

theorem filter_two {p q : BoundP → Bool} : ∀ (l : List BoundP) (k : Nat), (∀ b, p b = true → q b = true → False) → (l.filter p).length + ((l.take k).filter q).length ≤ l.length
  | [], k, _ => by simp
  | a :: r, 0, h => by simpa using List.length_filter_le p (a :: r)
  | a :: r, k + 1, h => by
    have ih := filter_two r k h
    rw [List.take_succ_cons, List.filter_cons, List.filter_cons]
    by_cases h1 : p a = true
    · have h2 : ¬ q a = true := fun h2 => h a h1 h2
      rw [if_pos h1, if_neg h2]
      simp only [List.length_cons]
      omega
    · rw [if_neg h1]
      by_cases h2 : q a = true
      · rw [if_pos h2]; simp only [List.length_cons]; omega
      · rw [if_neg h2]; simp only [List.length_cons]; omega

set_option maxHeartbeats 4000000 in
set_option maxRecDepth 100000 in
theorem set_law (v : Value) (l : List BoundP) (fr up : List UInt8) (h : Int) (F : Nat → Prop) (w : World) (hv : Bnds F w v l) (hk : okB l = true) (hn : l.length ≤ 5864062014634) :
    Calls Try.prog 19 #[v, str fr, str up, .int .i64 h] w fun e w' => ∃ v', e = .returned v' ∧ OwnB w.heap.size w' v' (setP l fr up h) ∧ Below w.heap.size w w' := by
  obtain ⟨post, HP⟩ := hide (fun (e : Ending) (w' : World) => ∃ v', e = .returned v' ∧ OwnB w.heap.size w' v' (setP l fr up h) ∧ Below w.heap.size w w')
  rw [HP.out]
  obtain ⟨ao, cap, rfl, hcap, hmax⟩ := hv.slice
  have HF : Hid (∀ w', Below w.heap.size w w' → Bnds F w' (.slice ao l.length cap) l) := fun w' hb => hv.frame (Plain.good _) (Agree.below hb)
  have HK := Lib.hid hk
  have Hn := Lib.hid hn
  have KCl := Lib.hid (clone_bnds _ l F w hv (by omega))
  have hm : l.length ≤ 9223372036854775807 := hmax
  obtain ⟨S, hS⟩ := hide w.heap.size
  rw [hS.out] at KCl
  clear hv hk hn hmax
  have hset : setP l fr up h = if up ≠ [] ∧ lt fr up = false then l else compactP (rawP l fr up h) := rfl
  have Hset := Lib.hid hset
  clear hset
  go_enter Try.func19, Try.ntmps19
  cases e1 : (up == [])
  · cases e2 : lt fr up
    · have e2' := (show Op.bytesLess fr up = false from e2)
      have HR : Hid (setP l fr up h = l) := by show _ = _; rw [Hset.out, if_pos ⟨by simpa using e1, e2⟩]
      clear e2
      go_wp2_with fail
      refine KCl.out.mono ?_
      rintro e w1 ⟨v1, rfl, ho1, hb1⟩
      obtain ⟨a1, c1, rfl⟩ := owns_slice ho1
      have Ho1 := Lib.hid ho1
      have Hb1 := Lib.hid hb1
      clear ho1 hb1
      go_wp2_with fail
      rw [← HP.out]
      refine ⟨_, rfl, ?_, hS.out ▸ Hb1.out⟩
      rw [HR.out, hS.out]
      exact Ho1.out
    · have e2' := (show Op.bytesLess fr up = true from e2)
      go_wp2_with fail
      obtain ⟨T, hT⟩ := hide (fun k => (l.take k).filter (fun b => lt b.frm fr))
      have HT1 : Hid (∀ k (hk : k < l.length), T (k + 1) = T k ++ if lt l[k].frm fr then [l[k]] else []) := by rw [← hT.out]; exact fun k hk => filter_step _ l hk
      have HTl : Hid (∀ k, (T k).length ≤ l.length) := by rw [← hT.out]; exact fun k => filter_le _ l k
      go_loopw [9, 25] (fun s9 i wr => ∃ k : Nat, ∃ a c, i = .int .i64 k ∧ k ≤ l.length ∧ s9 = .slice a (T k).length c ∧ Hid (OwnB S wr (.slice a (T k).length c) (T k)) ∧ Hid (Below S w wr)) (fun _ i _ => l.length - (intOf i).toNat)
      case atStart => exact ⟨0, none, 0, rfl, Nat.zero_le _, by rw [← hT.out]; rfl, by rw [← hT.out]; exact World.ownsRow_nil _ _ _ _, Below.refl _ _⟩
      case round =>
        obtain ⟨k, a, c, rfl, hkl, rfl, ho, hb⟩ := hrel
        by_cases hlt : k < l.length
        · obtain ⟨b, off, rfl, c0, c1⟩ := Sl.two (HF.out _ (hS.out ▸ hb.out)) hlt
          have ht := HT1.out k hlt
          obtain ⟨y, hy⟩ := hide l[k]
          rw [hy.out] at c0 c1 ht
          obtain ⟨V, hV⟩ := hide (wr.alloc (.cells #[str y.frm, .int .i64 y.host] 36))
          obtain ⟨B, hB⟩ := hide wr.heap.size
          have hcV : V.heap[B]? = some (.cells #[str y.frm, .int .i64 y.host] 36 (0, 0)) := by rw [← hV.out, ← hB.out]; exact hp_at _ _ rfl
          have d0 := cell_n hcV 0 (v := str y.frm) rfl
          have d1 := cell_n hcV 1 (v := .int .i64 y.host) rfl
          have HbV : Hid (Below S w V) := by show Below _ _ _; rw [← hV.out]; exact hb.out.alloc (by rw [← hS.out]; exact hS.out ▸ hb.out.size) _
          have HoV : Hid (OwnB S V (.slice a (T k).length c) (T k)) := by show World.ownsRow _ _ _ _ _ _ _; rw [← hV.out]; exact ho.out.alloc _
          clear hcV
          go_upto_region 7 with fail
          rw [hV.out, hB.out]
          cases hl : lt y.frm fr
          · have HT : Hid (T (k + 1) = T k) := by show _ = _; rw [ht, hl]; simp
            have hl' : Op.bytesLess y.frm fr = false := hl
            clear hl ht
            have HoV' : Hid (OwnB S V (.slice a (T (k + 1)).length c) (T (k + 1))) := by show OwnB _ _ _ _; rw [HT.out]; exact HoV.out
            go_wp2_with fail
            go_roundw
            case rel => exact ⟨k + 1, a, c, by go_num, by omega, by rw [HT.out], HoV', HbV⟩
            case measure => simp [intOf]; omega
          · have HT : Hid (T (k + 1) = T k ++ [y]) := by show _ = _; rw [ht, hl]; rfl
            have hl' : Op.bytesLess y.frm fr = true := hl
            clear hl ht
            have HLB : Hid ((T k).length ≤ 5864062014634) := Nat.le_trans (HTl.out k) Hn.out
            have HSW : Hid (S ≤ V.heap.size) := by show S ≤ _; rw [← hS.out]; exact HbV.out.size
            go_wp2_with (at_builtin; refine wpList_push rfl _ _ 32 rfl S 36 _ 2 24 Try.underlying32 info_bnd rfl (by decide) _ _ _ rfl HoV.out _ rfl rfl (by intro u hu; simp at hu; rcases hu with hu | hu <;> (subst hu; rfl)) (by have := HLB.out; unfold maxLen; omega) (by have := HLB.out; omega) HSW.out ?_)
            intro v2 w2 ho2 hg2
            obtain ⟨a2, c2, rfl⟩ := owns_slice ho2
            have Ho2 : Hid (OwnB S w2 (.slice a2 (T (k + 1)).length c2) (T (k + 1))) := by
              show w2.ownsRow _ _ _ _ _ _
              rw [HT.out, List.length_append, List.flatMap_append]
              exact ho2
            have Hb2 : Hid (Below S w w2) := HbV.out.trans (below_own HoV.out hg2 (Nat.le_refl _) HSW.out)
            clear ho2 hg2
            go_wp2_with fail
            go_roundw
            case rel => exact ⟨k + 1, a2, c2, by go_num, by omega, by rw [HT.out, List.length_append]; rfl, Ho2, Hb2⟩
            case measure => simp [intOf]; omega
        · obtain rfl : k = l.length := by omega
          have HLB : Hid ((T l.length).length ≤ 5864062014634) := Nat.le_trans (HTl.out _) Hn.out
          have HSW : Hid (S ≤ wr.heap.size) := by show S ≤ _; rw [← hS.out]; exact hb.out.size
          go_wp2_with (at_builtin; refine wpList_push rfl _ _ 32 rfl S 36 _ 2 24 Try.underlying32 info_bnd rfl (by decide) _ _ _ rfl ho.out _ rfl rfl (by intro u hu; simp at hu; rcases hu with hu | hu <;> (subst hu; rfl)) (by have := HLB.out; unfold maxLen; omega) (by have := HLB.out; omega) HSW.out ?_)
          intro v2 w2 ho2 hg2
          obtain ⟨a2, c2, rfl⟩ := owns_slice ho2
          have Hb2 : Hid (Below S w w2) := hb.out.trans (below_own ho.out hg2 (Nat.le_refl _) HSW.out)
          obtain ⟨E, hE⟩ := hide (T l.length ++ [⟨fr, h⟩])
          have HEl : Hid (E.length = (T l.length).length + 1) := by show _ = _; rw [← hE.out, List.length_append]; rfl
          have Ho2 : Hid (OwnB S w2 (.slice a2 E.length c2) E) := by
            show w2.ownsRow _ _ _ _ _ _
            rw [← hE.out, List.length_append, List.flatMap_append]
            exact ho2
          have HLB2 : Hid (E.length ≤ 5864062014635) := by show _ ≤ _; rw [HEl.out]; have := HLB.out; omega
          rw [← HEl.out]
          clear ho2 hg2
          have KA := Lib.hid (at_law up _ l F w2 (HF.out _ (hS.out ▸ Hb2.out)) HK.out (by have := Hn.out; omega))
          obtain ⟨H, hH⟩ := hide (hostOf up l)
          rw [hH.out] at KA
          go_wp2_with fail
          refine KA.out.mono ?_
          rintro e w3 ⟨rfl, hb3⟩
          have HSW2 : Hid (S ≤ w2.heap.size) := by show S ≤ _; rw [← hS.out]; exact Hb2.out.size
          have Ho3 := Lib.hid (own_below Ho2.out hb3)
          have Hb3 : Hid (Below S w w3) := Hb2.out.trans (hb3.mono HSW2.out)
          have HSW3 : Hid (S ≤ w3.heap.size) := Nat.le_trans HSW2.out hb3.size
          clear hb3
          go_wp2_with (at_builtin; refine wpList_push rfl _ _ 32 rfl S 36 _ 2 24 Try.underlying32 info_bnd rfl (by decide) _ _ _ rfl Ho3.out _ rfl rfl (by intro u hu; simp at hu; rcases hu with hu | hu <;> (subst hu; rfl)) (by have := HLB2.out; unfold maxLen; omega) (by have := HLB2.out; omega) HSW3.out ?_)
          intro v4 w4 ho4 hg4
          obtain ⟨a4, c4, rfl⟩ := owns_slice ho4
          have Hb4 : Hid (Below S w w4) := Hb3.out.trans (below_own Ho3.out hg4 (Nat.le_refl _) HSW3.out)
          obtain ⟨E2, hE2⟩ := hide (E ++ [⟨up, H⟩])
          have HEl2 : Hid (E2.length = E.length + 1) := by show _ = _; rw [← hE2.out, List.length_append]; rfl
          have Ho4 : Hid (OwnB S w4 (.slice a4 E2.length c4) E2) := by
            show w4.ownsRow _ _ _ _ _ _
            rw [← hE2.out, List.length_append, List.flatMap_append]
            exact ho4
          have HLB3 : Hid (E2.length ≤ 5864062014636) := by show _ ≤ _; rw [HEl2.out]; have := HLB2.out; omega
          rw [← HEl2.out]
          clear ho4 hg4
          obtain ⟨D, hD⟩ := hide (fun k => E2 ++ (l.take k).filter (fun b => up != [] && lt up b.frm))
          have HD1 : Hid (∀ k (hk : k < l.length), D (k + 1) = D k ++ if (up != [] && lt up l[k].frm) then [l[k]] else []) := by
            rw [← hD.out]
            intro k hk
            show E2 ++ _ = (E2 ++ _) ++ _
            rw [filter_step _ l hk, List.append_assoc]
          have HDl : Hid (∀ k, (D k).length ≤ 5864062014636) := by
            rw [← hD.out]
            intro k
            show (E2 ++ _).length ≤ _
            rw [List.length_append]
            have h9 : (T l.length).length + ((l.take k).filter (fun b => up != [] && lt up b.frm)).length ≤ l.length := by
              rw [← hT.out]
              simp only [List.take_length]
              refine filter_two l k (fun b hb1 hb2 => ?_)
              rw [Bool.and_eq_true] at hb2
              have := lt_trans (lt_trans hb1 e2) hb2.2
              rw [lt_irr] at this
              cases this
            have := HEl.out
            have := HEl2.out
            have := Hn.out
            omega
          go_wp2_with fail
          go_loopw [9, 56] (fun s9 i wr => ∃ k : Nat, ∃ a c, i = .int .i64 k ∧ k ≤ l.length ∧ s9 = .slice a (D k).length c ∧ Hid (OwnB S wr (.slice a (D k).length c) (D k)) ∧ Hid (Below S w wr)) (fun _ i _ => l.length - (intOf i).toNat)
          case atStart => exact ⟨0, a4, c4, rfl, Nat.zero_le _, by rw [← hD.out]; simp, by rw [← hD.out]; show OwnB _ _ _ _; simpa using Ho4.out, Hb4⟩
          case round =>
            clear ho hb Ho2 Ho4
            obtain ⟨k, a, c, rfl, hkl, rfl, ho, hb⟩ := hrel
            by_cases hlt : k < l.length
            · obtain ⟨b, off, rfl, c0, c1⟩ := Sl.two (HF.out _ (hS.out ▸ hb.out)) hlt
              have ht := HD1.out k hlt
              obtain ⟨y, hy⟩ := hide l[k]
              rw [hy.out] at c0 c1 ht
              obtain ⟨V, hV⟩ := hide (wr.alloc (.cells #[str y.frm, .int .i64 y.host] 36))
              obtain ⟨B, hB⟩ := hide wr.heap.size
              have hcV : V.heap[B]? = some (.cells #[str y.frm, .int .i64 y.host] 36 (0, 0)) := by rw [← hV.out, ← hB.out]; exact hp_at _ _ rfl
              have d0 := cell_n hcV 0 (v := str y.frm) rfl
              have d1 := cell_n hcV 1 (v := .int .i64 y.host) rfl
              have HbV : Hid (Below S w V) := by show Below _ _ _; rw [← hV.out]; exact hb.out.alloc (by rw [← hS.out]; exact hS.out ▸ hb.out.size) _
              have HoV : Hid (OwnB S V (.slice a (D k).length c) (D k)) := by show World.ownsRow _ _ _ _ _ _ _; rw [← hV.out]; exact ho.out.alloc _
              clear hcV
              go_upto_region 16 with fail
              rw [hV.out, hB.out]
              have hg := gt_lt y.frm up
              have en : (up != []) = true := by rw [bne, e1]; rfl
              cases hl : lt up y.frm
              · have HT : Hid (D (k + 1) = D k) := by show _ = _; rw [ht, en, hl]; simp
                rw [hl] at hg
                have hl' : (Op.bytesLess y.frm up || y.frm == up) = true := by have h9 := congrArg not hg; rw [Bool.not_not] at h9; exact h9
                clear hl hg ht en
                have HoV' : Hid (OwnB S V (.slice a (D (k + 1)).length c) (D (k + 1))) := by show OwnB _ _ _ _; rw [HT.out]; exact HoV.out
                go_wp2_with fail
                go_roundw
                case rel => exact ⟨k + 1, a, c, by go_num, by omega, by rw [HT.out], HoV', HbV⟩
                case measure => simp [intOf]; omega
              · have HT : Hid (D (k + 1) = D k ++ [y]) := by show _ = _; rw [ht, en, hl]; rfl
                rw [hl] at hg
                have hl' : (Op.bytesLess y.frm up || y.frm == up) = false := by have h9 := congrArg not hg; rw [Bool.not_not] at h9; exact h9
                clear hl hg ht en
                have HLD : Hid ((D k).length ≤ 5864062014636) := HDl.out k
                have HSV : Hid (S ≤ V.heap.size) := by show S ≤ _; rw [← hS.out]; exact HbV.out.size
                go_wp2_with (at_builtin; refine wpList_push rfl _ _ 32 rfl S 36 _ 2 24 Try.underlying32 info_bnd rfl (by decide) _ _ _ rfl HoV.out _ rfl rfl (by intro u hu; simp at hu; rcases hu with hu | hu <;> (subst hu; rfl)) (by have := HLD.out; unfold maxLen; omega) (by have := HLD.out; omega) HSV.out ?_)
                intro v2 w5 ho5 hg5
                obtain ⟨a5, c5, rfl⟩ := owns_slice ho5
                have Ho5 : Hid (OwnB S w5 (.slice a5 (D (k + 1)).length c5) (D (k + 1))) := by
                  show w5.ownsRow _ _ _ _ _ _
                  rw [HT.out, List.length_append, List.flatMap_append]
                  exact ho5
                have Hb5 : Hid (Below S w w5) := HbV.out.trans (below_own HoV.out hg5 (Nat.le_refl _) HSV.out)
                clear ho5 hg5
                go_wp2_with fail
                go_roundw
                case rel => exact ⟨k + 1, a5, c5, by go_num, by omega, by rw [HT.out, List.length_append]; rfl, Ho5, Hb5⟩
                case measure => simp [intOf]; omega
            · obtain rfl : k = l.length := by omega
              have HSW5 : Hid (S ≤ wr.heap.size) := by show S ≤ _; rw [← hS.out]; exact hb.out.size
              have HDD : Hid (D l.length = rawP l fr up h) := by
                show _ = _
                rw [← hD.out, ← hE2.out, ← hE.out, ← hT.out, ← hH.out]
                simp only [List.take_length]
                unfold rawP
                rw [if_neg (by simpa using e1)]
                simp
              have KC := Lib.hid (compact_law S (.slice a (D l.length).length c) (D l.length) wr ho.out HSW5.out (by have := HDl.out l.length; omega))
              go_wp2_with fail
              refine KC.out.mono ?_
              rintro e w6 ⟨v6, rfl, ho6, hb6⟩
              obtain ⟨a6, c6, rfl⟩ := owns_slice ho6
              have Ho6 := Lib.hid ho6
              have Hb6 := Lib.hid (hb.out.trans hb6)
              clear ho6 hb6
              go_wp2_with fail
              rw [← HP.out]
              refine ⟨_, rfl, ?_, hS.out ▸ Hb6.out⟩
              have hsp : setP l fr up h = compactP (D l.length) := by rw [HDD.out, Hset.out, if_neg (fun hh => by rw [hh.2] at e2; cases e2)]
              rw [hsp, hS.out]
              exact Ho6.out
  · clear KCl
    go_wp2_with fail
    obtain ⟨T, hT⟩ := hide (fun k => (l.take k).filter (fun b => lt b.frm fr))
    have HT1 : Hid (∀ k (hk : k < l.length), T (k + 1) = T k ++ if lt l[k].frm fr then [l[k]] else []) := by rw [← hT.out]; exact fun k hk => filter_step _ l hk
    have HTl : Hid (∀ k, (T k).length ≤ l.length) := by rw [← hT.out]; exact fun k => filter_le _ l k
    go_loopw [9, 25] (fun s9 i wr => ∃ k : Nat, ∃ a c, i = .int .i64 k ∧ k ≤ l.length ∧ s9 = .slice a (T k).length c ∧ Hid (OwnB S wr (.slice a (T k).length c) (T k)) ∧ Hid (Below S w wr)) (fun _ i _ => l.length - (intOf i).toNat)
    case atStart => exact ⟨0, none, 0, rfl, Nat.zero_le _, by rw [← hT.out]; rfl, by rw [← hT.out]; exact World.ownsRow_nil _ _ _ _, Below.refl _ _⟩
    case round =>
      obtain ⟨k, a, c, rfl, hkl, rfl, ho, hb⟩ := hrel
      by_cases hlt : k < l.length
      · obtain ⟨b, off, rfl, c0, c1⟩ := Sl.two (HF.out _ (hS.out ▸ hb.out)) hlt
        have ht := HT1.out k hlt
        obtain ⟨y, hy⟩ := hide l[k]
        rw [hy.out] at c0 c1 ht
        obtain ⟨V, hV⟩ := hide (wr.alloc (.cells #[str y.frm, .int .i64 y.host] 36))
        obtain ⟨B, hB⟩ := hide wr.heap.size
        have hcV : V.heap[B]? = some (.cells #[str y.frm, .int .i64 y.host] 36 (0, 0)) := by rw [← hV.out, ← hB.out]; exact hp_at _ _ rfl
        have d0 := cell_n hcV 0 (v := str y.frm) rfl
        have d1 := cell_n hcV 1 (v := .int .i64 y.host) rfl
        have HbV : Hid (Below S w V) := by show Below _ _ _; rw [← hV.out]; exact hb.out.alloc (by rw [← hS.out]; exact hS.out ▸ hb.out.size) _
        have HoV : Hid (OwnB S V (.slice a (T k).length c) (T k)) := by show World.ownsRow _ _ _ _ _ _ _; rw [← hV.out]; exact ho.out.alloc _
        clear hcV
        go_upto_region 7 with fail
        rw [hV.out, hB.out]
        cases hl : lt y.frm fr
        · have HT : Hid (T (k + 1) = T k) := by show _ = _; rw [ht, hl]; simp
          have hl' : Op.bytesLess y.frm fr = false := hl
          clear hl ht
          have HoV' : Hid (OwnB S V (.slice a (T (k + 1)).length c) (T (k + 1))) := by show OwnB _ _ _ _; rw [HT.out]; exact HoV.out
          go_wp2_with fail
          go_roundw
          case rel => exact ⟨k + 1, a, c, by go_num, by omega, by rw [HT.out], HoV', HbV⟩
          case measure => simp [intOf]; omega
        · have HT : Hid (T (k + 1) = T k ++ [y]) := by show _ = _; rw [ht, hl]; rfl
          have hl' : Op.bytesLess y.frm fr = true := hl
          clear hl ht
          have HLB : Hid ((T k).length ≤ 5864062014634) := Nat.le_trans (HTl.out k) Hn.out
          have HSW : Hid (S ≤ V.heap.size) := by show S ≤ _; rw [← hS.out]; exact HbV.out.size
          go_wp2_with (at_builtin; refine wpList_push rfl _ _ 32 rfl S 36 _ 2 24 Try.underlying32 info_bnd rfl (by decide) _ _ _ rfl HoV.out _ rfl rfl (by intro u hu; simp at hu; rcases hu with hu | hu <;> (subst hu; rfl)) (by have := HLB.out; unfold maxLen; omega) (by have := HLB.out; omega) HSW.out ?_)
          intro v2 w2 ho2 hg2
          obtain ⟨a2, c2, rfl⟩ := owns_slice ho2
          have Ho2 : Hid (OwnB S w2 (.slice a2 (T (k + 1)).length c2) (T (k + 1))) := by
            show w2.ownsRow _ _ _ _ _ _
            rw [HT.out, List.length_append, List.flatMap_append]
            exact ho2
          have Hb2 : Hid (Below S w w2) := HbV.out.trans (below_own HoV.out hg2 (Nat.le_refl _) HSW.out)
          clear ho2 hg2
          go_wp2_with fail
          go_roundw
          case rel => exact ⟨k + 1, a2, c2, by go_num, by omega, by rw [HT.out, List.length_append]; rfl, Ho2, Hb2⟩
          case measure => simp [intOf]; omega
      · obtain rfl : k = l.length := by omega
        have HLB : Hid ((T l.length).length ≤ 5864062014634) := Nat.le_trans (HTl.out _) Hn.out
        have HSW : Hid (S ≤ wr.heap.size) := by show S ≤ _; rw [← hS.out]; exact hb.out.size
        go_wp2_with (at_builtin; refine wpList_push rfl _ _ 32 rfl S 36 _ 2 24 Try.underlying32 info_bnd rfl (by decide) _ _ _ rfl ho.out _ rfl rfl (by intro u hu; simp at hu; rcases hu with hu | hu <;> (subst hu; rfl)) (by have := HLB.out; unfold maxLen; omega) (by have := HLB.out; omega) HSW.out ?_)
        intro v2 w2 ho2 hg2
        obtain ⟨a2, c2, rfl⟩ := owns_slice ho2
        have Hb2 : Hid (Below S w w2) := hb.out.trans (below_own ho.out hg2 (Nat.le_refl _) HSW.out)
        obtain ⟨E, hE⟩ := hide (T l.length ++ [⟨fr, h⟩])
        have HEl : Hid (E.length = (T l.length).length + 1) := by show _ = _; rw [← hE.out, List.length_append]; rfl
        have Ho2 : Hid (OwnB S w2 (.slice a2 E.length c2) E) := by
          show w2.ownsRow _ _ _ _ _ _
          rw [← hE.out, List.length_append, List.flatMap_append]
          exact ho2
        have HLB2 : Hid (E.length ≤ 5864062014635) := by show _ ≤ _; rw [HEl.out]; have := HLB.out; omega
        rw [← HEl.out]
        clear ho2 hg2
        obtain ⟨E2, hE2⟩ := hide E
        rw [hE2.out] at Ho2 HLB2 ⊢
        obtain ⟨a4, ha4⟩ : ∃ a4, a4 = a2 := ⟨_, rfl⟩
        obtain ⟨c4, hc4⟩ : ∃ c4, c4 = c2 := ⟨_, rfl⟩
        subst ha4 hc4
        have Ho4 := Ho2
        have Hb4 := Hb2
        have HLB3 : Hid (E2.length ≤ 5864062014636) := by show _ ≤ _; have := HLB2.out; omega
        obtain ⟨D, hD⟩ := hide (fun k => E2 ++ (l.take k).filter (fun b => up != [] && lt up b.frm))
        have HD1 : Hid (∀ k (hk : k < l.length), D (k + 1) = D k ++ if (up != [] && lt up l[k].frm) then [l[k]] else []) := by
          rw [← hD.out]
          intro k hk
          show E2 ++ _ = (E2 ++ _) ++ _
          rw [filter_step _ l hk, List.append_assoc]
        have HDl : Hid (∀ k, (D k).length ≤ 5864062014636) := by
          rw [← hD.out]
          intro k
          show (E2 ++ _).length ≤ _
          rw [List.length_append]
          have h9 : (T l.length).length + ((l.take k).filter (fun b => up != [] && lt up b.frm)).length ≤ l.length := by
            rw [← hT.out]
            simp only [List.take_length]
            refine filter_two l k (fun b hb1 hb2 => ?_)
            rw [show (up != []) = false from by rw [bne, e1]; rfl, Bool.false_and] at hb2
            cases hb2
          have := HEl.out
          have := congrArg List.length hE2.out
          have := Hn.out
          omega
        go_wp2_with fail
        go_loopw [9, 56] (fun s9 i wr => ∃ k : Nat, ∃ a c, i = .int .i64 k ∧ k ≤ l.length ∧ s9 = .slice a (D k).length c ∧ Hid (OwnB S wr (.slice a (D k).length c) (D k)) ∧ Hid (Below S w wr)) (fun _ i _ => l.length - (intOf i).toNat)
        case atStart => exact ⟨0, a4, c4, rfl, Nat.zero_le _, by rw [← hD.out]; simp, by rw [← hD.out]; show OwnB _ _ _ _; simpa using Ho4.out, Hb4⟩
        case round =>
          clear ho hb Ho2 Ho4
          obtain ⟨k, a, c, rfl, hkl, rfl, ho, hb⟩ := hrel
          by_cases hlt : k < l.length
          · obtain ⟨b, off, rfl, c0, c1⟩ := Sl.two (HF.out _ (hS.out ▸ hb.out)) hlt
            have ht := HD1.out k hlt
            obtain ⟨y, hy⟩ := hide l[k]
            rw [hy.out] at c0 c1 ht
            obtain ⟨V, hV⟩ := hide (wr.alloc (.cells #[str y.frm, .int .i64 y.host] 36))
            obtain ⟨B, hB⟩ := hide wr.heap.size
            have hcV : V.heap[B]? = some (.cells #[str y.frm, .int .i64 y.host] 36 (0, 0)) := by rw [← hV.out, ← hB.out]; exact hp_at _ _ rfl
            have d0 := cell_n hcV 0 (v := str y.frm) rfl
            have d1 := cell_n hcV 1 (v := .int .i64 y.host) rfl
            have HbV : Hid (Below S w V) := by show Below _ _ _; rw [← hV.out]; exact hb.out.alloc (by rw [← hS.out]; exact hS.out ▸ hb.out.size) _
            have HoV : Hid (OwnB S V (.slice a (D k).length c) (D k)) := by show World.ownsRow _ _ _ _ _ _ _; rw [← hV.out]; exact ho.out.alloc _
            clear hcV
            go_upto_region 16 with fail
            rw [hV.out, hB.out]
            have HT : Hid (D (k + 1) = D k) := by show _ = _; rw [ht, show (up != []) = false from by rw [bne, e1]; rfl]; simp
            clear ht
            have HoV' : Hid (OwnB S V (.slice a (D (k + 1)).length c) (D (k + 1))) := by show OwnB _ _ _ _; rw [HT.out]; exact HoV.out
            go_wp2_with fail
            go_roundw
            case rel => exact ⟨k + 1, a, c, by go_num, by omega, by rw [HT.out], HoV', HbV⟩
            case measure => simp [intOf]; omega
          · obtain rfl : k = l.length := by omega
            have HSW5 : Hid (S ≤ wr.heap.size) := by show S ≤ _; rw [← hS.out]; exact hb.out.size
            have HDD : Hid (D l.length = rawP l fr up h) := by
              show _ = _
              rw [← hD.out, ← hE2.out, ← hE.out, ← hT.out]
              simp only [List.take_length]
              unfold rawP
              rw [if_pos (by simpa using e1)]
              simp
            have KC := Lib.hid (compact_law S (.slice a (D l.length).length c) (D l.length) wr ho.out HSW5.out (by have := HDl.out l.length; omega))
            go_wp2_with fail
            refine KC.out.mono ?_
            rintro e w6 ⟨v6, rfl, ho6, hb6⟩
            obtain ⟨a6, c6, rfl⟩ := owns_slice ho6
            have Ho6 := Lib.hid ho6
            have Hb6 := Lib.hid (hb.out.trans hb6)
            clear ho6 hb6
            go_wp2_with fail
            rw [← HP.out]
            refine ⟨_, rfl, ?_, hS.out ▸ Hb6.out⟩
            have hsp : setP l fr up h = compactP (D l.length) := by rw [HDD.out, Hset.out, if_neg (fun hh => hh.1 (by simpa using e1))]
            rw [hsp, hS.out]
            exact Ho6.out
end Go.Proofs.Ytlknkhmhdmpdkaa
