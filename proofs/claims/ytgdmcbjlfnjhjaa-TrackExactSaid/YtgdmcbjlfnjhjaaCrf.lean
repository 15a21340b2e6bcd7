/-
  The reference's configurations: numbers put in, taken out; quorums; all members; who is lost; who votes.
-/
import Derived.Test.YtgdmcbjlfnjhjaaMq
import Derived.Test.YtgdmcbjlfnjhjaaUn
namespace Go.Proofs.Ytgdmcbjlfnjhjaa
open Go.RowKit Wm Mm
set_option linter.unusedVariables false
set_option linter.unusedSimpArgs false

abbrev OwnJ (S : Nat) (w : World) (v : Value) (l : List Int) : Prop := w.ownsRow S 3 1 v l.length (l.map (.int .i64))
theorem info_intJ : (Try.prog.info? 3).map (fun i => (i.zero, i.size, i.bytes)) = some (some (.int .i64 0), 1, 8) := by kernel_rfl
/-- those of 1 .. n - 1 of which something is so; of 1 .. 9 -/
def upK (p : Int → Bool) (n : Nat) : List Int := ((List.range (n - 1)).map (fun i => ((i + 1 : Nat) : Int))).filter p
def nineP (p : Int → Bool) : List Int := upK p 10
theorem upK_one (p : Int → Bool) : upK p 1 = [] := rfl
theorem upK_succ (p : Int → Bool) {n : Nat} (h : 1 ≤ n) : upK p (n + 1) = upK p n ++ (if p (n : Int) = true then [(n : Int)] else []) := by
  unfold upK
  rw [show n + 1 - 1 = (n - 1) + 1 from by omega, List.range_succ, List.map_append, List.filter_append]
  congr 1
  rw [List.map_singleton, show n - 1 + 1 = n from by omega]
  by_cases hp : p (n : Int) = true
  · rw [if_pos hp]; simp [hp]
  · rw [if_neg hp]; simp [hp]
theorem upK_len (p : Int → Bool) (n : Nat) : (upK p n).length ≤ n := by
  unfold upK
  refine Nat.le_trans (List.length_filter_le _ _) (by simp)
theorem nineP_mem {p : Int → Bool} {x : Int} : x ∈ nineP p ↔ (1 ≤ x ∧ x ≤ 9) ∧ p x = true := by
  unfold nineP upK
  simp only [List.mem_filter, List.mem_map, List.mem_range]
  constructor
  · rintro ⟨⟨i, hi, rfl⟩, hp⟩
    exact ⟨⟨by omega, by omega⟩, hp⟩
  · rintro ⟨⟨h1, h2⟩, hp⟩
    exact ⟨⟨(x - 1).toNat, by omega, by omega⟩, hp⟩
theorem nineP_strict (p : Int → Bool) : Strict (nineP p) := by
  unfold nineP upK
  refine List.Pairwise.filter _ ?_
  rw [List.pairwise_map]
  exact List.pairwise_lt_range.imp (fun h => by omega)
theorem nineP_ins {l : List Int} {n : Int} (hl : risingB l = true) (h1 : 1 ≤ n) (h9 : n ≤ 9) : nineP (fun k => hasB l k || (k == n)) = insP n l := by
  obtain ⟨hs, hb⟩ := rising_iff.1 hl
  refine strict_ext (nineP_strict _) (strict_insP hs) (fun x => ?_)
  rw [nineP_mem, mem_insP]
  simp only [Bool.or_eq_true, hasB_iff, beq_iff_eq]
  constructor
  · rintro ⟨_, h | h⟩
    · exact Or.inr h
    · exact Or.inl h
  · rintro (rfl | h)
    · exact ⟨⟨h1, h9⟩, Or.inr rfl⟩
    · exact ⟨hb x h, Or.inl h⟩
theorem nineP_all {c : Conf} (hv : validB c = true) : nineP (fun k => hasB c.v k || (hasB c.n k || hasB c.l k)) = unionP (c.v ++ (c.n ++ c.l)) := by
  obtain ⟨_, h2, h3, h4, _⟩ := validB_iff.1 hv
  have b2 := (rising_iff.1 h2).2
  have b3 := (rising_iff.1 h3).2
  have b4 := (rising_iff.1 h4).2
  refine strict_ext (nineP_strict _) (unionP_strict _) (fun x => ?_)
  rw [nineP_mem, unionP_mem, List.mem_append, List.mem_append]
  simp only [Bool.or_eq_true, hasB_iff]
  constructor
  · exact fun h => h.2
  · intro h
    exact ⟨h.elim (b2 x) (fun h => h.elim (b3 x) (b4 x)), h⟩
set_option maxHeartbeats 2000000 in
theorem refWith_law (v : Value) (l : List Int) (n : Int) (w : World) (hv : Ints w v l) :
    Calls Try.prog 84 #[v, .int .i64 n] w fun e w' => ∃ v', e = .returned v' ∧ OwnJ w.heap.size w' v' (nineP (fun k : Int => hasB l k || (k == n))) ∧ Below w.heap.size w w' := by
  obtain ⟨post, HP⟩ := hide (fun e w' => ∃ v', e = .returned v' ∧ OwnJ w.heap.size w' v' (nineP (fun k : Int => hasB l k || (k == n))) ∧ Below w.heap.size w w' : Ending → World → Prop)
  rw [HP.out]
  obtain ⟨p, hP⟩ := hide (fun k : Int => hasB l k || (k == n))
  have HPd := Lib.hid (fun k => (congrFun hP.out.symm k : p k = (fun k : Int => hasB l k || (k == n)) k))
  obtain ⟨S, hS⟩ := hide w.heap.size
  obtain ⟨W, hW⟩ : ∃ V, V = w := ⟨_, rfl⟩
  subst hW
  have HSW : Hid (S ≤ W.heap.size) := by show _ ≤ _; rw [← hS.out]; exact Nat.le_refl _
  have HB0 : Hid (Below S W W) := Below.refl _ _
  have HWw : Hid (∀ w', Below S W w' → Below W.heap.size W w') := by show ∀ w', _ → _; intro w' h; rw [hS.out]; exact h
  have HSb : Hid (W.heap.size ≤ S) := by show _ ≤ _; rw [hS.out]; exact Nat.le_refl _
  have Hv : Hid (∀ w', Below S W w' → Ints w' v l) := by show ∀ w', _ → _; intro w' h; exact hv.mono (HWw.out _ h)
  clear hv
  go_enter Try.func84, Try.ntmps84

  go_wp2_with fail
  go_loopw [5, 6] (fun v n wr => ∃ k : Nat, n = .int .i64 (k : Int) ∧ 1 ≤ k ∧ k ≤ 10 ∧ Hid (OwnJ S wr v (upK p k)) ∧ Hid (Below S W wr)) (fun _ n _ => 10 - (intOf n).toNat)
  case atStart => exact ⟨1, rfl, Nat.le_refl _, by omega, World.ownsRow_nil _ _ _ _, HB0⟩
  case round =>
    obtain ⟨k, rfl, hk1, hk, ho, hb⟩ := hrel
    obtain ⟨ao, cp, rfl⟩ := owns_slice ho.out
    by_cases hlt : k ≤ 9
    · have t9 : decide ((k : Int) ≤ 9) = true := decide_eq_true (by omega)
      have hlen := upK_len p k
      have Hlen := Lib.hid (show (upK p k).length ≤ 10 by omega)
      have Hs := Lib.hid (upK_succ p hk1)
      have Hpk := Lib.hid (HPd.out (k : Int))
      have HBs : Hid (S ≤ wr.heap.size) := Nat.le_trans HSW.out hb.out.size
      obtain ⟨L, hL⟩ := hide (upK p k)
      rw [hL.out] at ho Hlen Hs
      obtain ⟨z, hz⟩ := hide (p (k : Int))
      rw [hz.out] at Hpk Hs
      have hkk : k + 1 ≤ 10 := by omega
      rw [hL.out]
      clear hlen hz
      have KH := Lib.hid (ref_has v l (k : Int) wr (Hv.out _ hb.out))
      obtain ⟨z1, hz1⟩ := hide (hasB l (k : Int))
      obtain ⟨z2, hz2⟩ := hide ((k : Int) == n)
      rw [hz1.out] at KH
      have hzz : z = (z1 || z2) := by rw [Hpk.out]; show (hasB l (k : Int) || ((k : Int) == n)) = _; rw [hz1.out, hz2.out]
      have e2 := hz2.out
      clear hz1
      go_wp2_with fail
      refine KH.out.mono ?_
      rintro e w' ⟨rfl, rfl⟩
      cases z1 with
      | true =>
        rw [Bool.true_or] at hzz
        subst hzz
        have Hs2 : Hid (upK p (k + 1) = L ++ [(k : Int)]) := by show _ = _; rw [Hs.out]; simp
        go_wp2_with (at_builtin; refine wpList_push rfl _ _ 22 rfl S 3 (.int .i64 0) 1 8 Try.underlying22 info_intJ rfl (by decide) _ _ _ rfl ho.out _ rfl rfl (by intro u hu; simp at hu; subst hu; rfl) (by have := Hlen.out; unfold maxLen; omega) (by have := Hlen.out; omega) HBs.out ?_)
        intro v' w2 ho2 hg2
        have HB2 : Hid (Below S W w2) := hb.out.trans (below_own ho.out hg2 (Nat.le_refl _) HBs.out)
        have HO2 : Hid (OwnJ S w2 v' (upK p (k + 1))) := by
          show World.ownsRow _ _ _ _ _ _ _
          rw [Hs2.out, List.length_append, List.map_append]
          exact ho2
        clear ho2 hg2
        go_wp2_with fail
        go_roundw
        case rel => exact ⟨k + 1, by go_num, by omega, hkk, HO2, HB2⟩
        case measure => simp [intOf]; omega
      | false =>
        rw [Bool.false_or] at hzz
        cases z2 with
        | true =>
          subst hzz
          have Hs2 : Hid (upK p (k + 1) = L ++ [(k : Int)]) := by show _ = _; rw [Hs.out]; simp
          go_wp2_with (at_builtin; refine wpList_push rfl _ _ 22 rfl S 3 (.int .i64 0) 1 8 Try.underlying22 info_intJ rfl (by decide) _ _ _ rfl ho.out _ rfl rfl (by intro u hu; simp at hu; subst hu; rfl) (by have := Hlen.out; unfold maxLen; omega) (by have := Hlen.out; omega) HBs.out ?_)
          intro v' w2 ho2 hg2
          have HB2 : Hid (Below S W w2) := hb.out.trans (below_own ho.out hg2 (Nat.le_refl _) HBs.out)
          have HO2 : Hid (OwnJ S w2 v' (upK p (k + 1))) := by
            show World.ownsRow _ _ _ _ _ _ _
            rw [Hs2.out, List.length_append, List.map_append]
            exact ho2
          clear ho2 hg2
          go_wp2_with fail
          go_roundw
          case rel => exact ⟨k + 1, by go_num, by omega, hkk, HO2, HB2⟩
          case measure => simp [intOf]; omega
        | false =>
          subst hzz
          have HO2 : Hid (OwnJ S wr (.slice ao L.length cp) (upK p (k + 1))) := by
            show World.ownsRow _ _ _ _ _ _ _
            rw [Hs.out]; simpa using ho.out
          go_wp2_with fail
          go_roundw
          case rel => exact ⟨k + 1, by go_num, by omega, hkk, HO2, hb⟩
          case measure => simp [intOf]; omega
    · have t9 : decide ((k : Int) ≤ 9) = false := decide_eq_false (by omega)
      obtain rfl : k = 10 := by omega
      have Ho : Hid (OwnJ S wr (.slice ao (upK p 10).length cp) (nineP p)) := ho
      have Hq : Hid (post (.returned (.slice ao (upK p 10).length cp)) wr) := by
        show post _ _
        rw [← HP.out]
        refine ⟨_, rfl, ?_, HWw.out _ hb.out⟩
        rw [hP.out]
        exact own_base Ho.out HSb.out
      clear hlt
      go_wp2_with fail
      first | exact Hq.out | (go_ret; exact Hq.out)
set_option maxHeartbeats 2000000 in
theorem refMembers_law (a b d : Value) (c : Conf) (w : World) (hc : Config3 w a b d c) :
    Calls Try.prog 50 #[.agg #[a, b, d]] w fun e w' => ∃ v', e = .returned v' ∧ OwnJ w.heap.size w' v' (nineP (fun k : Int => hasB c.v k || (hasB c.n k || hasB c.l k))) ∧ Below w.heap.size w w' := by
  obtain ⟨post, HP⟩ := hide (fun e w' => ∃ v', e = .returned v' ∧ OwnJ w.heap.size w' v' (nineP (fun k : Int => hasB c.v k || (hasB c.n k || hasB c.l k))) ∧ Below w.heap.size w w' : Ending → World → Prop)
  rw [HP.out]
  obtain ⟨p, hP⟩ := hide (fun k : Int => hasB c.v k || (hasB c.n k || hasB c.l k))
  have HPd := Lib.hid (fun k => (congrFun hP.out.symm k : p k = (fun k : Int => hasB c.v k || (hasB c.n k || hasB c.l k)) k))
  obtain ⟨W, hW⟩ := hide (w.alloc (.cells #[a, b, d] 25))
  have hxW : W.heap[w.heap.size]? = some (.cells #[a, b, d] 25 (0, 0)) := by rw [← hW.out]; exact hp_at _ _ rfl
  have hbW : Below w.heap.size w W := by rw [← hW.out]; exact (Below.refl _ _).alloc (Nat.le_refl _) _
  obtain ⟨S, hS⟩ := hide W.heap.size
  have HSW : Hid (S ≤ W.heap.size) := by show _ ≤ _; rw [← hS.out]; exact Nat.le_refl _
  have HB0 : Hid (Below S W W) := Below.refl _ _
  have HSb : Hid (w.heap.size ≤ S) := by show _ ≤ _; rw [← hS.out]; exact hbW.size
  have HWw : Hid (∀ w', Below S W w' → Below w.heap.size w w') := by show ∀ w', _ → _; intro w' h; exact hbW.trans (h.mono HSb.out)
  obtain ⟨B, hB⟩ := hide w.heap.size
  rw [hB.out] at hxW
  have HX : Hid (∀ w', Below S W w' → w'.heap[B]? = some (.cells #[a, b, d] 25 (0, 0))) := by show ∀ w', _ → _; intro w' h; exact (h.block B (by rw [← hS.out]; exact lt_of_block hxW)).trans hxW
  have HC : Hid (∀ w', Below S W w' → Config3 w' a b d c) := by show ∀ w', _ → _; intro w' h; exact hc.mono (HWw.out _ h)
  clear hxW hbW hc
  go_enter Try.func50, Try.ntmps50
  go_upto_region 1 with fail
  rw [hW.out, hB.out]
  go_wp2_with fail
  go_loopw [3, 4] (fun v n wr => ∃ k : Nat, n = .int .i64 (k : Int) ∧ 1 ≤ k ∧ k ≤ 10 ∧ Hid (OwnJ S wr v (upK p k)) ∧ Hid (Below S W wr)) (fun _ n _ => 10 - (intOf n).toNat)
  case atStart => exact ⟨1, rfl, Nat.le_refl _, by omega, World.ownsRow_nil _ _ _ _, HB0⟩
  case round =>
    obtain ⟨k, rfl, hk1, hk, ho, hb⟩ := hrel
    obtain ⟨ao, cp, rfl⟩ := owns_slice ho.out
    by_cases hlt : k ≤ 9
    · have t9 : decide ((k : Int) ≤ 9) = true := decide_eq_true (by omega)
      have hlen := upK_len p k
      have Hlen := Lib.hid (show (upK p k).length ≤ 10 by omega)
      have Hs := Lib.hid (upK_succ p hk1)
      have Hpk := Lib.hid (HPd.out (k : Int))
      have HBs : Hid (S ≤ wr.heap.size) := Nat.le_trans HSW.out hb.out.size
      obtain ⟨L, hL⟩ := hide (upK p k)
      rw [hL.out] at ho Hlen Hs
      obtain ⟨z, hz⟩ := hide (p (k : Int))
      rw [hz.out] at Hpk Hs
      have hkk : k + 1 ≤ 10 := by omega
      rw [hL.out]
      clear hlen hz
      have x0 := HX.out _ hb.out
      have c0 := cell_n x0 0 (v := a) rfl
      have c1 := cell_n x0 1 (v := b) rfl
      have c2 := cell_n x0 2 (v := d) rfl
      have KH1 := Lib.hid (ref_has a c.v (k : Int) wr (HC.out _ hb.out).v)
      have KH2 := Lib.hid (ref_has b c.n (k : Int) wr (HC.out _ hb.out).n)
      have KH3 := Lib.hid (ref_has d c.l (k : Int) wr (HC.out _ hb.out).l)
      obtain ⟨z1, hz1⟩ := hide (hasB c.v (k : Int))
      obtain ⟨z2, hz2⟩ := hide (hasB c.n (k : Int))
      obtain ⟨z3, hz3⟩ := hide (hasB c.l (k : Int))
      rw [hz1.out] at KH1
      rw [hz2.out] at KH2
      rw [hz3.out] at KH3
      have hzz : z = (z1 || (z2 || z3)) := by rw [Hpk.out]; show (hasB c.v (k : Int) || (hasB c.n (k : Int) || hasB c.l (k : Int))) = _; rw [hz1.out, hz2.out, hz3.out]
      clear hz1 hz2 hz3 x0
      go_wp2_with fail
      refine KH1.out.mono ?_
      rintro e w' ⟨rfl, rfl⟩
      go_wp2_with fail
      refine KH2.out.mono ?_
      rintro e w' ⟨rfl, rfl⟩
      go_wp2_with fail
      refine KH3.out.mono ?_
      rintro e w' ⟨rfl, rfl⟩
      clear c0 c1 c2
      cases z1 with
      | true =>
        rw [Bool.true_or] at hzz
        subst hzz
        have Hs2 : Hid (upK p (k + 1) = L ++ [(k : Int)]) := by show _ = _; rw [Hs.out]; simp
        go_wp2_with (at_builtin; refine wpList_push rfl _ _ 22 rfl S 3 (.int .i64 0) 1 8 Try.underlying22 info_intJ rfl (by decide) _ _ _ rfl ho.out _ rfl rfl (by intro u hu; simp at hu; subst hu; rfl) (by have := Hlen.out; unfold maxLen; omega) (by have := Hlen.out; omega) HBs.out ?_)
        intro v' w2 ho2 hg2
        have HB2 : Hid (Below S W w2) := hb.out.trans (below_own ho.out hg2 (Nat.le_refl _) HBs.out)
        have HO2 : Hid (OwnJ S w2 v' (upK p (k + 1))) := by
          show World.ownsRow _ _ _ _ _ _ _
          rw [Hs2.out, List.length_append, List.map_append]
          exact ho2
        clear ho2 hg2
        go_wp2_with fail
        go_roundw
        case rel => exact ⟨k + 1, by go_num, by omega, hkk, HO2, HB2⟩
        case measure => simp [intOf]; omega
      | false =>
        rw [Bool.false_or] at hzz
        cases z2 with
        | true =>
          rw [Bool.true_or] at hzz
          subst hzz
          have Hs2 : Hid (upK p (k + 1) = L ++ [(k : Int)]) := by show _ = _; rw [Hs.out]; simp
          go_wp2_with (at_builtin; refine wpList_push rfl _ _ 22 rfl S 3 (.int .i64 0) 1 8 Try.underlying22 info_intJ rfl (by decide) _ _ _ rfl ho.out _ rfl rfl (by intro u hu; simp at hu; subst hu; rfl) (by have := Hlen.out; unfold maxLen; omega) (by have := Hlen.out; omega) HBs.out ?_)
          intro v' w2 ho2 hg2
          have HB2 : Hid (Below S W w2) := hb.out.trans (below_own ho.out hg2 (Nat.le_refl _) HBs.out)
          have HO2 : Hid (OwnJ S w2 v' (upK p (k + 1))) := by
            show World.ownsRow _ _ _ _ _ _ _
            rw [Hs2.out, List.length_append, List.map_append]
            exact ho2
          clear ho2 hg2
          go_wp2_with fail
          go_roundw
          case rel => exact ⟨k + 1, by go_num, by omega, hkk, HO2, HB2⟩
          case measure => simp [intOf]; omega
        | false =>
          rw [Bool.false_or] at hzz
          cases z3 with
          | true =>
            subst hzz
            have Hs2 : Hid (upK p (k + 1) = L ++ [(k : Int)]) := by show _ = _; rw [Hs.out]; simp
            go_wp2_with (at_builtin; refine wpList_push rfl _ _ 22 rfl S 3 (.int .i64 0) 1 8 Try.underlying22 info_intJ rfl (by decide) _ _ _ rfl ho.out _ rfl rfl (by intro u hu; simp at hu; subst hu; rfl) (by have := Hlen.out; unfold maxLen; omega) (by have := Hlen.out; omega) HBs.out ?_)
            intro v' w2 ho2 hg2
            have HB2 : Hid (Below S W w2) := hb.out.trans (below_own ho.out hg2 (Nat.le_refl _) HBs.out)
            have HO2 : Hid (OwnJ S w2 v' (upK p (k + 1))) := by
              show World.ownsRow _ _ _ _ _ _ _
              rw [Hs2.out, List.length_append, List.map_append]
              exact ho2
            clear ho2 hg2
            go_wp2_with fail
            go_roundw
            case rel => exact ⟨k + 1, by go_num, by omega, hkk, HO2, HB2⟩
            case measure => simp [intOf]; omega
          | false =>
            subst hzz
            have HO2 : Hid (OwnJ S wr (.slice ao L.length cp) (upK p (k + 1))) := by
              show World.ownsRow _ _ _ _ _ _ _
              rw [Hs.out]; simpa using ho.out
            go_wp2_with fail
            go_roundw
            case rel => exact ⟨k + 1, by go_num, by omega, hkk, HO2, hb⟩
            case measure => simp [intOf]; omega
    · have t9 : decide ((k : Int) ≤ 9) = false := decide_eq_false (by omega)
      obtain rfl : k = 10 := by omega
      have Ho : Hid (OwnJ S wr (.slice ao (upK p 10).length cp) (nineP p)) := ho
      have Hq : Hid (post (.returned (.slice ao (upK p 10).length cp)) wr) := by
        show post _ _
        rw [← HP.out]
        refine ⟨_, rfl, ?_, HWw.out _ hb.out⟩
        rw [hP.out]
        exact own_base Ho.out HSb.out
      clear hlt
      go_wp2_with fail
      first | exact Hq.out | (go_ret; exact Hq.out)
set_option maxHeartbeats 1000000 in
theorem refMore_law (v u : Value) (l am : List Int) (w : World) (hv : Ints w v l) (hu : Ints w u am) (hl : l.length ≤ 1099511627776) :
    Calls Try.prog 85 #[v, u] w fun e w' => e = .returned (.bool (mostB l am)) ∧ w = w' := by
  have HS := Lib.hid (fun x => ref_has u am x w hu)
  obtain ⟨ao, cap, rfl, hc, _⟩ := hv
  have HC := Lib.hid hc
  obtain ⟨post, HP⟩ := hide (fun (e : Ending) (w' : World) => e = .returned (.bool (mostB l am)) ∧ w = w')
  rw [HP.out]
  clear hc hu
  go_enter Try.func85, Try.ntmps85
  go_wp2
  go_loopw [5, 6] (fun s i wr => ∃ k a : Nat, s = .int .i64 a ∧ i = .int .i64 k ∧ k ≤ l.length ∧ wr = w ∧ a ≤ k ∧ Hid (a = ((l.take k).filter (hasB am)).length)) (fun _ i _ => l.length - (intOf i).toNat)
  case atStart => exact ⟨0, 0, rfl, rfl, Nat.zero_le _, rfl, Nat.le_refl _, by show _ = _; simp⟩
  case round =>
    obtain ⟨k, a, rfl, rfl, hk, rfl, hak, Ha⟩ := hrel
    by_cases hlt : k < l.length
    · obtain ⟨b, off, rfl, hcell⟩ := HC.out (ints_ne' hlt)
      have hck := hcell k l[k] (by simp [hlt])
      have Hf := Lib.hid (take_filter hlt (hasB am))
      obtain ⟨x, hX⟩ := hide l[k]
      rw [hX.out] at hck Hf
      obtain ⟨z, hZ⟩ := hide (hasB am x)
      rw [hZ.out] at Hf
      have ha1 : a + 1 ≤ 1099511627777 := by omega
      have hk1 : k + 1 ≤ 1099511627777 := by omega
      clear hcell
      go_wp2_with fail
      refine (HS.out x).mono ?_
      rintro e w' ⟨rfl, rfl⟩
      rw [hZ.out]
      cases z
      · go_wp2_with fail
        go_roundw
        case rel => exact ⟨k + 1, a, rfl, by go_num, hlt, (by first | rfl | trivial), by omega, by show _ = _; rw [Hf.out, ← Ha.out]; rfl⟩
        case measure => simp [intOf]; omega
      · go_wp2_with fail
        go_roundw
        case rel => exact ⟨k + 1, a + 1, by go_num, by go_num, hlt, (by first | rfl | trivial), by omega, by show _ = _; rw [Hf.out, ← Ha.out]; rfl⟩
        case measure => simp [intOf]; omega
    · have hkn : k = l.length := by omega
      have hm : mostB l am = decide ((l.length : Int) < 2 * (a : Int)) := by
        have := Ha.out
        rw [hkn, List.take_length] at this
        unfold mostB
        rw [← this]
        exact decide_eq_decide.2 ⟨fun h => by omega, fun h => by omega⟩
      have ha2 : 2 * (a : Int) ≤ 2199023255552 := by omega
      have Hp : Hid (∀ z, mostB l am = z → post (.returned (.bool z)) wr) := by
        show ∀ z, _ → _
        intro z hz; rw [← HP.out, ← hz]; exact ⟨rfl, rfl⟩
      have Hm := Lib.hid hm
      clear hm
      obtain ⟨z, hZ⟩ := hide (decide ((l.length : Int) < 2 * (a : Int)))
      have hz := hZ.out
      have Hz := Lib.hid (Hp.out z (by rw [Hm.out, hz]))
      go_wp2_with fail
      first | exact Hz.out | (go_ret; exact Hz.out)
theorem outP_snoc {l : List Int} {k : Nat} (h : k < l.length) (n : Int) : outP n (l.take (k + 1)) = outP n (l.take k) ++ (if (l[k] == n) = true then [] else [l[k]]) := by
  unfold outP
  rw [filter_snoc h]
  congr 1
  by_cases hp : (l[k] == n) = true
  · rw [if_pos hp, hp]; rfl
  · rw [if_neg hp]; simp [hp]
set_option maxHeartbeats 2000000 in
theorem refBut_law (v : Value) (l : List Int) (n : Int) (w : World) (hv : Ints w v l) (hl : l.length ≤ 1048576) :
    Calls Try.prog 83 #[v, .int .i64 n] w fun e w' => ∃ v', e = .returned v' ∧ OwnJ w.heap.size w' v' (outP n l) ∧ Below w.heap.size w w' := by
  obtain ⟨post, HP⟩ := hide (fun (e : Ending) (w' : World) => ∃ v', e = .returned v' ∧ OwnJ w.heap.size w' v' (outP n l) ∧ Below w.heap.size w w')
  rw [HP.out]
  obtain ⟨ao, cap, rfl, _⟩ := len_of_Ints hv
  have Hv : Hid (∀ w', Below w.heap.size w w' → l ≠ [] → ∃ b off, ao = some ⟨b, off, none⟩ ∧ ∀ j x, l[j]? = some x → w'.cell? ⟨b, off + j, none⟩ = some (.int .i64 x)) := by
    show ∀ w', _ → _
    intro w' h
    obtain ⟨_, _, he, hc, _⟩ := hv.mono h
    injection he with e1 e2 e3
    subst e1; subst e3
    exact hc
  obtain ⟨S, hS⟩ := hide w.heap.size
  rw [hS.out] at Hv HP
  have HSW : Hid (S ≤ w.heap.size) := by show _ ≤ _; rw [hS.out]; exact Nat.le_refl _
  clear hv
  go_enter Try.func83, Try.ntmps83
  go_wp2_with fail
  go_loopw [5, 6] (fun v5 i wr => ∃ k : Nat, i = .int .i64 (k : Int) ∧ k ≤ l.length ∧ Hid (OwnJ S wr v5 (outP n (l.take k))) ∧ Hid (Below S w wr)) (fun _ i _ => l.length - (intOf i).toNat)
  case atStart => exact ⟨0, rfl, Nat.zero_le _, World.ownsRow_nil _ _ _ _, Below.refl _ _⟩
  case round =>
    obtain ⟨k, rfl, hk, ho, hb⟩ := hrel
    by_cases hlt : k < l.length
    · obtain ⟨b, off, rfl, hcell⟩ := Hv.out _ hb.out (ints_ne' hlt)
      have hck := hcell k l[k] (by simp [hlt])
      have Hs := Lib.hid (outP_snoc hlt n)
      have hlen : (outP n (l.take k)).length ≤ 1048576 := Nat.le_trans (List.length_filter_le _ _) (by rw [List.length_take]; omega)
      obtain ⟨x, hX⟩ := hide l[k]
      rw [hX.out] at hck Hs
      obtain ⟨L, hL⟩ := hide (outP n (l.take k))
      rw [hL.out] at ho Hs hlen
      have HBs : Hid (S ≤ wr.heap.size) := Nat.le_trans HSW.out hb.out.size
      have hk1 : k + 1 ≤ 1048577 := by omega
      clear hcell
      cases hz : (x == n) with
      | true =>
        have hz2 : (x != n) = false := by rw [bne, hz]; rfl
        have HO2 : Hid (OwnJ S wr u5 (outP n (l.take (k + 1)))) := by
          show World.ownsRow _ _ _ _ _ _ _
          rw [Hs.out, if_pos hz, List.append_nil]; exact ho.out
        go_wp2_with fail
        go_roundw
        case rel => exact ⟨k + 1, by go_num, hlt, HO2, hb⟩
        case measure => simp [intOf]; omega
      | false =>
        have hz2 : (x != n) = true := by rw [bne, hz]; rfl
        have Hs2 : Hid (outP n (l.take (k + 1)) = L ++ [x]) := by show _ = _; rw [Hs.out, if_neg (by rw [hz]; decide)]
        obtain ⟨a4, n4, rfl⟩ := owns_slice ho.out
        go_wp2_with (at_builtin; refine wpList_push rfl _ _ 22 rfl S 3 (.int .i64 0) 1 8 Try.underlying22 info_intJ rfl (by decide) _ _ _ rfl ho.out _ rfl rfl (by intro u hu; simp at hu; subst hu; rfl) (by unfold maxLen; omega) (by omega) HBs.out ?_)
        intro v' w2 ho2 hg2
        have HB2 : Hid (Below S w w2) := hb.out.trans (below_own ho.out hg2 (Nat.le_refl _) HBs.out)
        have HO2 : Hid (OwnJ S w2 v' (outP n (l.take (k + 1)))) := by
          show World.ownsRow _ _ _ _ _ _ _
          rw [Hs2.out, List.length_append, List.map_append]; exact ho2
        clear ho2 hg2
        go_wp2_with fail
        go_roundw
        case rel => exact ⟨k + 1, by go_num, hlt, HO2, HB2⟩
        case measure => simp [intOf]; omega
    · have Hp : Hid (post (.returned u5) wr) := by
        show post _ _
        rw [← HP.out]
        refine ⟨_, rfl, ?_, hb.out⟩
        have := ho.out
        rw [List.take_of_length_le (by omega)] at this
        exact this
      have t0 : decide (k < l.length) = false := decide_eq_false hlt
      clear hlt
      go_wp2_with fail
      first | exact Hp.out | (go_ret; exact Hp.out)
set_option maxHeartbeats 2000000 in
theorem refQuorum_law (a b d u : Value) (c : Conf) (hv : List Int) (w : World) (hc : Config3 w a b d c) (hu : Ints w u hv) (h1 : c.v.length ≤ 1099511627776) (h2 : c.n.length ≤ 1099511627776) :
    Calls Try.prog 51 #[.agg #[a, b, d], u] w fun e w' => e = .returned (.bool (quorumB c hv)) ∧ Below w.heap.size w w' := by
  obtain ⟨post, HP⟩ := hide (fun (e : Ending) (w' : World) => e = .returned (.bool (quorumB c hv)) ∧ Below w.heap.size w w')
  rw [HP.out]
  have hb1 : Below w.heap.size w (w.alloc (.cells #[a, b, d] 25)) := (Below.refl _ _).alloc (Nat.le_refl _) _
  obtain ⟨bo, cb, rfl, _⟩ := len_of_Ints hc.n
  obtain ⟨W, hW⟩ := hide (w.alloc (.cells #[a, .slice bo c.n.length cb, d] 25))
  have hc1 : Config3 W a (.slice bo c.n.length cb) d c := by rw [← hW.out]; exact hc.mono ((Below.refl _ _).alloc (Nat.le_refl _) _)
  have hx : W.heap[w.heap.size]? = some (.cells #[a, .slice bo c.n.length cb, d] 25 (0, 0)) := by rw [← hW.out]; exact hp_at _ _ rfl
  rw [hW.out] at hb1
  have hu1 : Ints W u hv := hu.mono hb1
  obtain ⟨B, hB⟩ := hide w.heap.size
  rw [hB.out] at hx
  have c0 : W.cell? ⟨B, 0, none⟩ = some a := cell_n hx 0 rfl
  have c1 : W.cell? ⟨B, 1, none⟩ = some (.slice bo c.n.length cb) := cell_n hx 1 rfl
  have HM1 := Lib.hid (refMore_law a u c.v hv W hc1.v hu1 h1)
  have HM2 := Lib.hid (refMore_law (.slice bo c.n.length cb) u c.n hv W hc1.n hu1 h2)
  have Hdef := Lib.hid (show quorumB c hv = (mostB c.v hv && (decide (c.n.length = 0) || mostB c.n hv)) from rfl)
  have Hp : Hid (∀ z, quorumB c hv = z → post (.returned (.bool z)) W) := by
    show ∀ z, _ → _
    intro z hz; rw [← HP.out, ← hz]; exact ⟨rfl, hb1⟩
  have hn0 : ((c.n.length : Int) == 0) = decide (c.n.length = 0) := by
    by_cases h : c.n.length = 0
    · rw [h]; rfl
    · rw [decide_eq_false h]; exact beq_eq_false_iff_ne.2 (by omega)
  obtain ⟨m1, hm1⟩ := hide (mostB c.v hv)
  obtain ⟨m2, hm2⟩ := hide (mostB c.n hv)
  obtain ⟨j, hJ⟩ := hide (decide (c.n.length = 0))
  rw [hm1.out] at HM1 Hdef
  rw [hm2.out] at HM2 Hdef
  rw [hJ.out] at hn0 Hdef
  clear hb1 hc hc1 hx hu1
  go_enter Try.func51, Try.ntmps51
  go_upto_region 1 with fail
  rw [hW.out, hB.out]
  go_wp2_with fail
  refine HM1.out.mono ?_
  rintro e w' ⟨rfl, rfl⟩
  go_wp2_with fail
  refine HM2.out.mono ?_
  rintro e w' ⟨rfl, rfl⟩
  cases m1 <;> cases j <;> cases m2
  all_goals
    have Hq := Lib.hid (Hp.out _ Hdef.out)
    simp only [Bool.false_and, Bool.true_and, Bool.false_or, Bool.true_or, Bool.or_false, Bool.or_true] at Hq
    go_wp2_with fail
    first | exact Hq.out | (go_ret; exact Hq.out)
end Go.Proofs.Ytgdmcbjlfnjhjaa
