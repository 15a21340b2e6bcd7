/-
  Who is lost, who votes: both sides.
-/
import Derived.Test.YtgdmcbjlfnjhjaaCrf
import Derived.Test.YtgdmcbjlfnjhjaaTrm
namespace Go.Proofs.Ytgdmcbjlfnjhjaa
open Go.RowKit Wm Mm
set_option linter.unusedVariables false
set_option linter.unusedSimpArgs false

theorem mostB_eq {l h1 h2 : List Int} (h : ∀ x ∈ l, hasB h1 x = hasB h2 x) : mostB l h1 = mostB l h2 := by
  unfold mostB
  rw [List.filter_congr h]
theorem quorumB_eq {c : Conf} {h1 h2 : List Int} (h : ∀ x, x ∈ c.v ∨ x ∈ c.n → hasB h1 x = hasB h2 x) : quorumB c h1 = quorumB c h2 := by
  unfold quorumB
  rw [mostB_eq (fun x hx => h x (Or.inl hx)), mostB_eq (l := c.n) (fun x hx => h x (Or.inr hx))]
/-- those that are left of all members; of 1 .. 9 -/
def leftP (c : Conf) (wo : List Int) : List Int := (unionP (c.v ++ (c.n ++ c.l))).filter (fun x => !(hasB wo x))
def nineLeft (wo : List Int) : List Int := nineP (fun k => !(hasB wo k))
theorem lost_eq {c : Conf} (hv : validB c = true) (wo : List Int) : quorumB c (leftP c wo) = quorumB c (nineLeft wo) := by
  obtain ⟨_, h2, h3, _, _⟩ := validB_iff.1 hv
  refine quorumB_eq (fun x hx => hasB_eq ?_)
  unfold leftP nineLeft
  rw [List.mem_filter, unionP_mem, nineP_mem, List.mem_append, List.mem_append]
  have hb : 1 ≤ x ∧ x ≤ 9 := hx.elim ((rising_iff.1 h2).2 x) ((rising_iff.1 h3).2 x)
  constructor
  · exact fun h => ⟨hb, h.2⟩
  · exact fun h => ⟨hx.elim Or.inl (fun h => Or.inr (Or.inl h)), h.2⟩
set_option maxHeartbeats 2000000 in
theorem refLost_law (a b d u : Value) (c : Conf) (wo : List Int) (w : World) (hc : Config3 w a b d c) (hu : Ints w u wo) (h1 : c.v.length ≤ 1099511627776) (h2 : c.n.length ≤ 1099511627776) :
    Calls Try.prog 53 #[.agg #[a, b, d], u] w fun e w' => e = .returned (.bool (!(quorumB c (nineLeft wo)))) ∧ Below w.heap.size w w' := by
  obtain ⟨post, HP⟩ := hide (fun e w' => e = .returned (.bool (!(quorumB c (nineLeft wo)))) ∧ Below w.heap.size w w' : Ending → World → Prop)
  rw [HP.out]
  obtain ⟨p, hP⟩ := hide (fun k : Int => !(hasB wo k))
  have HPd := Lib.hid (fun k => (congrFun hP.out.symm k : p k = (fun k : Int => !(hasB wo k)) k))
  obtain ⟨W, hW⟩ := hide (w.alloc (.cells #[a, b, d] 25))
  have hxW : W.heap[w.heap.size]? = some (.cells #[a, b, d] 25 (0, 0)) := by rw [← hW.out]; exact hp_at _ _ rfl
  have hbW : Below w.heap.size w W := by rw [← hW.out]; exact (Below.refl _ _).alloc (Nat.le_refl _) _
  obtain ⟨S, hS⟩ := hide W.heap.size
  have HSW : Hid (S ≤ W.heap.size) := by show _ ≤ _; rw [← hS.out]; exact Nat.le_refl _
  have HB0 : Hid (Below S W W) := Below.refl _ _
  have HSb : Hid (w.heap.size ≤ S) := by show _ ≤ _; rw [← hS.out]; exact hbW.size
  have HWw : Hid (∀ w', Below S W w' → Below w.heap.size w w') := by show ∀ w', _ → _; intro w' h; exact hbW.trans (h.mono HSb.out)
  obtain ⟨B, hB⟩ := hide w.heap.size
  rw [hB.out] at hxW
  have HX : Hid (∀ w', Below S W w' → w'.heap[B]? = some (.cells #[a, b, d] 25 (0, 0))) := by show ∀ w', _ → _; intro w' h; exact (h.block B (by rw [← hS.out]; exact lt_of_block hxW)).trans hxW
  have HC : Hid (∀ w', Below S W w' → Config3 w' a b d c) := by show ∀ w', _ → _; intro w' h; exact hc.mono (HWw.out _ h)
  clear hxW hbW hc
  have Hu : Hid (∀ w', Below S W w' → Ints w' u wo) := by show ∀ w', _ → _; intro w' h; exact hu.mono (HWw.out _ h)
  clear hu
  go_enter Try.func53, Try.ntmps53
  go_upto_region 1 with fail
  rw [hW.out, hB.out]
  go_wp2_with fail
  go_loopw [5, 6] (fun v n wr => ∃ k : Nat, n = .int .i64 (k : Int) ∧ 1 ≤ k ∧ k ≤ 10 ∧ Hid (OwnJ S wr v (upK p k)) ∧ Hid (Below S W wr)) (fun _ n _ => 10 - (intOf n).toNat)
  case atStart => exact ⟨1, rfl, Nat.le_refl _, by omega, World.ownsRow_nil _ _ _ _, HB0⟩
  case round =>
    obtain ⟨k, rfl, hk1, hk, ho, hb⟩ := hrel
    obtain ⟨ao, cp, rfl⟩ := owns_slice ho.out
    by_cases hlt : k ≤ 9
    · have t9 : decide ((k : Int) ≤ 9) = true := decide_eq_true (by omega)
      have hlen := upK_len p k
      have Hlen := Lib.hid (show (upK p k).length ≤ 10 by omega)
      have Hs := Lib.hid (upK_succ p hk1)
      have Hpk := Lib.hid (HPd.out (k : Int))
      have HBs : Hid (S ≤ wr.heap.size) := Nat.le_trans HSW.out hb.out.size
      obtain ⟨L, hL⟩ := hide (upK p k)
      rw [hL.out] at ho Hlen Hs
      obtain ⟨z, hz⟩ := hide (p (k : Int))
      rw [hz.out] at Hpk Hs
      have hkk : k + 1 ≤ 10 := by omega
      rw [hL.out]
      clear hlen hz
      have KH := Lib.hid (ref_has u wo (k : Int) wr (Hu.out _ hb.out))
      obtain ⟨z1, hz1⟩ := hide (hasB wo (k : Int))
      rw [hz1.out] at KH
      have hzz : z = !z1 := by rw [Hpk.out]; show (!(hasB wo (k : Int))) = _; rw [hz1.out]
      clear hz1
      go_wp2_with fail
      refine KH.out.mono ?_
      rintro e w' ⟨rfl, rfl⟩
      cases z1 with
      | true =>
        rw [Bool.not_true] at hzz
        subst hzz
        have HO2 : Hid (OwnJ S wr (.slice ao L.length cp) (upK p (k + 1))) := by
          show World.ownsRow _ _ _ _ _ _ _
          rw [Hs.out]; simpa using ho.out
        go_wp2_with fail
        go_roundw
        case rel => exact ⟨k + 1, by go_num, by omega, hkk, HO2, hb⟩
        case measure => simp [intOf]; omega
      | false =>
        rw [Bool.not_false] at hzz
        subst hzz
        have Hs2 : Hid (upK p (k + 1) = L ++ [(k : Int)]) := by show _ = _; rw [Hs.out]; simp
        go_wp2_with (at_builtin; refine wpList_push rfl _ _ 22 rfl S 3 (.int .i64 0) 1 8 Try.underlying22 info_intJ rfl (by decide) _ _ _ rfl ho.out _ rfl rfl (by intro u hu; simp at hu; subst hu; rfl) (by have := Hlen.out; unfold maxLen; omega) (by have := Hlen.out; omega) HBs.out ?_)
        intro v' w2 ho2 hg2
        have HB2 : Hid (Below S W w2) := hb.out.trans (below_own ho.out hg2 (Nat.le_refl _) HBs.out)
        have HO2 : Hid (OwnJ S w2 v' (upK p (k + 1))) := by
          show World.ownsRow _ _ _ _ _ _ _
          rw [Hs2.out, List.length_append, List.map_append]
          exact ho2
        clear ho2 hg2
        go_wp2_with fail
        go_roundw
        case rel => exact ⟨k + 1, by go_num, by omega, hkk, HO2, HB2⟩
        case measure => simp [intOf]; omega
    · have t9 : decide ((k : Int) ≤ 9) = false := decide_eq_false (by omega)
      obtain rfl : k = 10 := by omega
      have Ho : Hid (OwnJ S wr (.slice ao (upK p 10).length cp) (nineP p)) := ho
      have Hi : Hid (Ints wr (.slice ao (upK p 10).length cp) (nineLeft wo)) := by
        show Ints _ _ _
        have en : nineP p = nineLeft wo := by rw [← hP.out]; rfl
        rw [← en]
        exact Ints.of_own Ho.out
      have KQ := Lib.hid (refQuorum_law a b d (.slice ao (upK p 10).length cp) c (nineLeft wo) wr (HC.out _ hb.out) Hi.out h1 h2)
      obtain ⟨q, hq⟩ := hide (quorumB c (nineLeft wo))
      rw [hq.out] at KQ
      have x0 := HX.out _ hb.out
      have c0 := cell_n x0 0 (v := a) rfl
      have c1 := cell_n x0 1 (v := b) rfl
      have c2 := cell_n x0 2 (v := d) rfl
      clear hlt x0
      go_wp2_with fail
      refine KQ.out.mono ?_
      rintro e w3 ⟨rfl, hb3⟩
      have Hq : Hid (post (.returned (.bool (!q))) w3) := by
        show post _ _
        rw [← HP.out]
        exact ⟨by rw [hq.out], HWw.out _ (hb.out.trans (hb3.mono (Nat.le_trans HSW.out hb.out.size)))⟩
      clear hb3 c0 c1 c2
      go_wp2_with fail
      first | exact Hq.out | (go_ret; exact Hq.out)
set_option maxHeartbeats 1000000 in
theorem config_votes (a b d : Value) (c : Conf) (n : Int) (w : World) (hc : Config3 w a b d c) :
    Calls Try.prog 54 #[.agg #[a, b, d], .int .i64 n] w fun e w' => e = .returned (.bool (hasB c.v n || hasB c.n n)) ∧ Below w.heap.size w w' := by
  obtain ⟨post, HP⟩ := hide (fun (e : Ending) (w' : World) => e = .returned (.bool (hasB c.v n || hasB c.n n)) ∧ Below w.heap.size w w')
  rw [HP.out]
  obtain ⟨W, hW⟩ := hide (w.alloc (.cells #[a, b, d] 25))
  have hx : W.heap[w.heap.size]? = some (.cells #[a, b, d] 25 (0, 0)) := by rw [← hW.out]; exact hp_at _ _ rfl
  have hb : Below w.heap.size w W := by rw [← hW.out]; exact (Below.refl _ _).alloc (Nat.le_refl _) _
  have hc1 := hc.mono hb
  have c0 := cell_n hx 0 (v := a) rfl
  have c1 := cell_n hx 1 (v := b) rfl
  have K1 := Lib.hid (slices_contains a c.v n W hc1.v)
  have K2 := Lib.hid (slices_contains b c.n n W hc1.n)
  obtain ⟨z1, hz1⟩ := hide (hasB c.v n)
  obtain ⟨z2, hz2⟩ := hide (hasB c.n n)
  rw [hz1.out] at K1
  rw [hz2.out] at K2
  have Hq : Hid (post (.returned (.bool (z1 || z2))) W) := by
    show post _ _
    rw [← HP.out]
    exact ⟨by rw [hz1.out, hz2.out], hb⟩
  obtain ⟨B, hB⟩ := hide w.heap.size
  rw [hB.out] at c0 c1
  clear hx hb hc hc1 hz1 hz2
  go_enter Try.func54, Try.ntmps54
  go_upto_region 1 with fail
  rw [hW.out, hB.out]
  go_wp2_with fail
  refine K1.out.mono ?_
  rintro e w' ⟨rfl, rfl⟩
  cases z1 with
  | true =>
    go_wp2_with fail
    first | exact Hq.out | (go_ret; exact Hq.out)
  | false =>
  go_wp2_with fail
  refine K2.out.mono ?_
  rintro e w' ⟨rfl, rfl⟩
  cases z2
  all_goals
    go_wp2_with fail
    first | exact Hq.out | (go_ret; exact Hq.out)
set_option maxHeartbeats 1000000 in
theorem ref_votes (a b d : Value) (c : Conf) (n : Int) (w : World) (hc : Config3 w a b d c) :
    Calls Try.prog 55 #[.agg #[a, b, d], .int .i64 n] w fun e w' => e = .returned (.bool (hasB c.v n || hasB c.n n)) ∧ Below w.heap.size w w' := by
  obtain ⟨post, HP⟩ := hide (fun (e : Ending) (w' : World) => e = .returned (.bool (hasB c.v n || hasB c.n n)) ∧ Below w.heap.size w w')
  rw [HP.out]
  obtain ⟨W, hW⟩ := hide (w.alloc (.cells #[a, b, d] 25))
  have hx : W.heap[w.heap.size]? = some (.cells #[a, b, d] 25 (0, 0)) := by rw [← hW.out]; exact hp_at _ _ rfl
  have hb : Below w.heap.size w W := by rw [← hW.out]; exact (Below.refl _ _).alloc (Nat.le_refl _) _
  have hc1 := hc.mono hb
  have c0 := cell_n hx 0 (v := a) rfl
  have c1 := cell_n hx 1 (v := b) rfl
  have K1 := Lib.hid (ref_has a c.v n W hc1.v)
  have K2 := Lib.hid (ref_has b c.n n W hc1.n)
  obtain ⟨z1, hz1⟩ := hide (hasB c.v n)
  obtain ⟨z2, hz2⟩ := hide (hasB c.n n)
  rw [hz1.out] at K1
  rw [hz2.out] at K2
  have Hq : Hid (post (.returned (.bool (z1 || z2))) W) := by
    show post _ _
    rw [← HP.out]
    exact ⟨by rw [hz1.out, hz2.out], hb⟩
  obtain ⟨B, hB⟩ := hide w.heap.size
  rw [hB.out] at c0 c1
  clear hx hb hc hc1 hz1 hz2
  go_enter Try.func55, Try.ntmps55
  go_upto_region 1 with fail
  rw [hW.out, hB.out]
  go_wp2_with fail
  refine K1.out.mono ?_
  rintro e w' ⟨rfl, rfl⟩
  go_wp2_with fail
  refine K2.out.mono ?_
  rintro e w' ⟨rfl, rfl⟩
  cases z1 <;> cases z2
  all_goals
    go_wp2_with fail
    first | exact Hq.out | (go_ret; exact Hq.out)
theorem filter_take {l : List Int} {k : Nat} (h : k < l.length) (p : Int → Bool) : (l.take (k + 1)).filter p = (l.take k).filter p ++ (if p l[k] = true then [l[k]] else []) := filter_snoc h p
set_option maxHeartbeats 2000000 in
theorem config_lost (a b d u : Value) (c : Conf) (wo : List Int) (w : World) (hc : Config3 w a b d c) (hu : Ints w u wo) (h1 : c.v.length ≤ 1048576) (h2 : c.n.length ≤ 1048576) (h3 : c.l.length ≤ 1048576) :
    Calls Try.prog 52 #[.agg #[a, b, d], u] w fun e w' => e = .returned (.bool (!(quorumB c (leftP c wo)))) ∧ Below w.heap.size w w' := by
  obtain ⟨post, HP⟩ := hide (fun (e : Ending) (w' : World) => e = .returned (.bool (!(quorumB c (leftP c wo)))) ∧ Below w.heap.size w w')
  rw [HP.out]
  obtain ⟨W, hW⟩ := hide (w.alloc (.cells #[a, b, d] 25))
  have hxW : W.heap[w.heap.size]? = some (.cells #[a, b, d] 25 (0, 0)) := by rw [← hW.out]; exact hp_at _ _ rfl
  have hbW : Below w.heap.size w W := by rw [← hW.out]; exact (Below.refl _ _).alloc (Nat.le_refl _) _
  obtain ⟨S, hS⟩ := hide W.heap.size
  have HSW : Hid (S ≤ W.heap.size) := by show _ ≤ _; rw [← hS.out]; exact Nat.le_refl _
  have HB0 : Hid (Below S W W) := Below.refl _ _
  have HSb : Hid (w.heap.size ≤ S) := by show _ ≤ _; rw [← hS.out]; exact hbW.size
  have HWw : Hid (∀ w', Below S W w' → Below w.heap.size w w') := by show ∀ w', _ → _; intro w' h; exact hbW.trans (h.mono HSb.out)
  obtain ⟨B, hB⟩ := hide w.heap.size
  rw [hB.out] at hxW
  have HX : Hid (∀ w', Below S W w' → w'.heap[B]? = some (.cells #[a, b, d] 25 (0, 0))) := by show ∀ w', _ → _; intro w' h; exact (h.block B (by rw [← hS.out]; exact lt_of_block hxW)).trans hxW
  have HC : Hid (∀ w', Below S W w' → Config3 w' a b d c) := by show ∀ w', _ → _; intro w' h; exact hc.mono (HWw.out _ h)
  clear hxW hbW hc
  have Hu : Hid (∀ w', Below S W w' → Ints w' u wo) := by show ∀ w', _ → _; intro w' h; exact hu.mono (HWw.out _ h)
  have HM := Lib.hid (members_law a b d c W (HC.out _ HB0.out) h1 h2 h3)
  have hul := unionP_len (c.v ++ (c.n ++ c.l))
  have hdef : leftP c wo = (unionP (c.v ++ (c.n ++ c.l))).filter (fun x => !(hasB wo x)) := rfl
  obtain ⟨m, hm⟩ := hide (unionP (c.v ++ (c.n ++ c.l)))
  rw [hm.out] at HM hul hdef
  have Hdef := Lib.hid hdef
  have hml : m.length ≤ 3145728 := by simp only [List.length_append] at hul; omega
  have x0 := HX.out _ HB0.out
  have c0 := cell_n x0 0 (v := a) rfl
  have c1 := cell_n x0 1 (v := b) rfl
  have c2 := cell_n x0 2 (v := d) rfl
  clear hu hul hdef x0
  go_enter Try.func52, Try.ntmps52
  go_upto_region 1 with fail
  rw [hW.out, hB.out]
  go_wp2_with fail
  refine HM.out.mono ?_
  rintro e w2 ⟨v2, rfl, hom, hb2⟩
  obtain ⟨a2, k2, rfl⟩ := owns_slice hom
  have H2 : Hid (Below S W w2) := by show Below _ _ _; rw [← hS.out]; exact hb2
  have Hi2 := Lib.hid (Ints.of_own hom)
  clear hom hb2 c0 c1 c2
  go_wp2_with fail
  obtain ⟨T, hT⟩ := hide w2.heap.size
  have HST : Hid (S ≤ T) := by show _ ≤ _; rw [← hT.out]; exact Nat.le_trans HSW.out H2.out.size
  have HTw : Hid (T ≤ w2.heap.size) := by show _ ≤ _; rw [← hT.out]; exact Nat.le_refl _
  have HI2 : Hid (∀ w', Below T w2 w' → Ints w' (.slice a2 m.length k2) m) := by show ∀ w', _ → _; intro w' h; exact Hi2.out.mono (by rw [hT.out]; exact h)
  have HU2 : Hid (∀ w', Below T w2 w' → Below S W w') := fun w' h => H2.out.trans (h.mono HST.out)
  clear Hi2
  go_loopw [5, 11] (fun v5 i wr => ∃ k : Nat, i = .int .i64 (k : Int) ∧ k ≤ m.length ∧ Hid (OwnJ T wr v5 ((m.take k).filter (fun x => !(hasB wo x)))) ∧ Hid (Below T w2 wr)) (fun _ i _ => m.length - (intOf i).toNat)
  case atStart => exact ⟨0, rfl, Nat.zero_le _, World.ownsRow_nil _ _ _ _, Below.refl _ _⟩
  case round =>
    obtain ⟨k, rfl, hk, ho, hb⟩ := hrel
    have him := HI2.out _ hb.out
    by_cases hlt : k < m.length
    · obtain ⟨_, _, he, hcm, _⟩ := him
      injection he with e1 e2 e3
      subst e1; subst e3
      obtain ⟨bm, om, rfl, hcell⟩ := hcm (ints_ne' hlt)
      have hck := hcell k m[k] (by simp [hlt])
      have Hs := Lib.hid (filter_take hlt (fun x => !(hasB wo x)))
      have hlen : ((m.take k).filter (fun x => !(hasB wo x))).length ≤ 3145728 := Nat.le_trans (List.length_filter_le _ _) (by rw [List.length_take]; omega)
      obtain ⟨x, hX⟩ := hide m[k]
      rw [hX.out] at hck Hs
      obtain ⟨L, hL⟩ := hide ((m.take k).filter (fun x => !(hasB wo x)))
      rw [hL.out] at ho Hs hlen
      have HBs : Hid (T ≤ wr.heap.size) := Nat.le_trans HTw.out hb.out.size
      have KC := Lib.hid (slices_contains u wo x wr (Hu.out _ (HU2.out _ hb.out)))
      obtain ⟨z, hz⟩ := hide (hasB wo x)
      rw [hz.out] at KC
      have hk1 : k + 1 ≤ 3145729 := by omega
      clear hcell hcm
      go_wp2_with fail
      refine KC.out.mono ?_
      rintro e w' ⟨rfl, rfl⟩
      cases z with
      | true =>
        have HO2 : Hid (OwnJ T wr u5 ((m.take (k + 1)).filter (fun x => !(hasB wo x)))) := by
          show World.ownsRow _ _ _ _ _ _ _
          rw [Hs.out, hz.out]; simpa using ho.out
        go_wp2_with fail
        go_roundw
        case rel => exact ⟨k + 1, by go_num, hlt, HO2, hb⟩
        case measure => simp [intOf]; omega
      | false =>
        have Hs2 : Hid ((m.take (k + 1)).filter (fun x => !(hasB wo x)) = L ++ [x]) := by show _ = _; rw [Hs.out, hz.out]; simp
        obtain ⟨a4, n4, rfl⟩ := owns_slice ho.out
        go_wp2_with (at_builtin; refine wpList_push rfl _ _ 22 rfl T 3 (.int .i64 0) 1 8 Try.underlying22 info_intJ rfl (by decide) _ _ _ rfl ho.out _ rfl rfl (by intro u hu; simp at hu; subst hu; rfl) (by unfold maxLen; omega) (by omega) HBs.out ?_)
        intro v' w4 ho2 hg2
        have HB2 : Hid (Below T w2 w4) := hb.out.trans (below_own ho.out hg2 (Nat.le_refl _) HBs.out)
        have HO2 : Hid (OwnJ T w4 v' ((m.take (k + 1)).filter (fun x => !(hasB wo x)))) := by
          show World.ownsRow _ _ _ _ _ _ _
          rw [Hs2.out, List.length_append, List.map_append]; exact ho2
        clear ho2 hg2
        go_wp2_with fail
        go_roundw
        case rel => exact ⟨k + 1, by go_num, hlt, HO2, HB2⟩
        case measure => simp [intOf]; omega
    · have Hi : Hid (Ints wr u5 (leftP c wo)) := by
        show Ints _ _ _
        have := ho.out
        rw [List.take_of_length_le (by omega)] at this
        rw [Hdef.out]
        exact Ints.of_own this
      have HB5 := Lib.hid (HU2.out _ hb.out)
      have KQ := Lib.hid (quorum_law a b d u5 c (leftP c wo) wr (HC.out _ HB5.out) Hi.out (by omega) (by omega))
      obtain ⟨q, hq⟩ := hide (quorumB c (leftP c wo))
      rw [hq.out] at KQ
      have x0 := HX.out _ HB5.out
      have c0 := cell_n x0 0 (v := a) rfl
      have c1 := cell_n x0 1 (v := b) rfl
      have c2 := cell_n x0 2 (v := d) rfl
      have t0 : decide (k < m.length) = false := decide_eq_false hlt
      clear hlt x0
      go_wp2_with fail
      refine KQ.out.mono ?_
      rintro e w3 ⟨rfl, hb3⟩
      have Hq : Hid (post (.returned (.bool (!q))) w3) := by
        show post _ _
        rw [← HP.out]
        exact ⟨by rw [hq.out], HWw.out _ (HB5.out.trans (hb3.mono (Nat.le_trans HSW.out HB5.out.size)))⟩
      clear hb3 c0 c1 c2
      go_wp2_with fail
      first | exact Hq.out | (go_ret; exact Hq.out)
end Go.Proofs.Ytgdmcbjlfnjhjaa
