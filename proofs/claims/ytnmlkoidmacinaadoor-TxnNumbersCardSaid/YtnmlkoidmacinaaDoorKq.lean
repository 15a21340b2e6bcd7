/-
  The reference's map: a key's value is put: there is room.
-/
import Derived.Test.YtnmlkoidmacinaaDoorKn
namespace Go.Proofs.YtnmlkoidmacinaaDoor
open Go.RowKit Wm Mm Dg Kv
set_option linter.unusedVariables false
set_option linter.unusedSimpArgs false

theorem lt_of_not_eq_not {a b : List UInt8} (h : lt a b = false) (hne : a ≠ b) : lt b a = true := by
  cases h2 : lt b a
  · exact absurd (lt_tri h h2) hne
  · rfl
/-- keys behind the place stand above the key -/
theorem place_ne {l : List PairP} (ho : OkPs l) {key : List UInt8} {i : Nat} (hi : i < l.length) (h : place l key < i) : l[i].key ≠ key := fun e => by
  have h1 := place_hi ho (key := key) (i := place l key) (by omega) (Nat.le_refl _)
  have h2 := ho.lt i h hi
  rw [e, h1] at h2
  cases h2

set_option maxHeartbeats 4000000 in
set_option maxRecDepth 100000 in
theorem refPut_new (key val : List UInt8) (v : Value) (l : List PairP) (F : Nat → Prop) (w : World) (h : Prs F w v l) (ho : OkPs l) (hf : fullK l key val = false) (hq : isK l key = false) :
    Calls Tryd.prog 45 #[v, str key, str val] w fun e w' => ∃ bv, e = .returned (.tuple #[bv, vResK 1 [] ((oldK l key).ver + 1) (.slice none 0 0)]) ∧ OwnP w.heap.size w' bv (putL l key val) ∧ Below w.heap.size w w' := by
  obtain ⟨post, HP⟩ := hide (fun (e : Ending) (w' : World) => ∃ bv, e = .returned (.tuple #[bv, vResK 1 [] ((oldK l key).ver + 1) (.slice none 0 0)]) ∧ OwnP w.heap.size w' bv (putL l key val) ∧ Below w.heap.size w w')
  rw [HP.out]
  obtain ⟨ao, cap, rfl, hcap, hmax⟩ := h.slice
  obtain ⟨W, hW⟩ := hide (w.alloc (.cells zeroRes.toArray 56))
  obtain ⟨R, hR⟩ := hide w.heap.size
  have HbW : Hid (Below w.heap.size w W) := by show Below _ _ _; rw [← hW.out]; exact (Below.refl _ _).alloc (Nat.le_refl _) _
  have HRW : Hid (W.heap[R]? = some (.cells zeroRes.toArray 56 (0, 0))) := by show _ = _; rw [← hW.out, ← hR.out]; exact hp_at _ _ rfl
  have HF : Hid (Prs F W (.slice ao l.length cap) l) := h.frame (Plain.good _) (Agree.below HbW.out)
  have KG := Lib.hid (refGet_law key _ l F W HF.out ho)
  obtain ⟨k, hkq⟩ := hide (place l key)
  obtain ⟨n, hn⟩ := hide l.length
  have hn32 := ho.n
  have hv64 : val.length ≤ 64 := by
    unfold fullK at hf
    by_cases h64 : 64 < val.length
    · simp [h64] at hf
    · omega
  have hkn : k ≤ n := by rw [← hkq.out, ← hn.out]; exact place_le _ _
  have Ho := Lib.hid ho
  have Hq := Lib.hid hq
  have hnz : n ≠ 32 := by
    unfold fullK at hf
    rw [hq, hn.out] at hf
    simp at hf
    exact hf.2
  have hgr : getR l key = -1 := by unfold getR; rw [hq]; rfl
  rw [hn.out, hgr] at KG
  obtain ⟨U, hU⟩ := hide (W.alloc (.cells #[str key, str val, .int .i64 1] 25))
  obtain ⟨xv, hxv⟩ := hide (1 : Int)
  have Hxv : Hid ((oldK l key).ver + 1 = xv) := by show _ = _; rw [oldK_no hq, ← hxv.out]; rfl
  have HXU0 : Hid (W.alloc (.cells #[str key, str val, .int .i64 xv] 25) = U) := by show _ = _; rw [← hxv.out]; exact hU.out
  have t2 : ((n : Int) == 32) = false := beq_eq_false_iff_ne.2 (by omega)
  clear hgr
  have t1 : decide ((64 : Int) < (val.length : Int)) = false := decide_eq_false (by omega)
  obtain ⟨X, hX⟩ := hide W.heap.size
  have HbU : Hid (Below w.heap.size w U) := by show Below _ _ _; rw [← HXU0.out]; exact HbW.out.alloc HbW.out.size _
  have HXU : Hid (U.heap[X]? = some (.cells (rowPair (newK l key val)).toArray 25 (0, 0))) := by show _ = _; rw [← HXU0.out, ← hX.out]; rw [hp_at _ _ rfl]; show _ = some (Obj.cells #[str key, str val, .int .i64 ((oldK l key).ver + 1)] _ _); rw [Hxv.out]
  have HRU : Hid (U.heap[R]? = some (.cells zeroRes.toArray 56 (0, 0))) := by show _ = _; rw [← HXU0.out]; rw [hp_past _ _ (by have := lt_of_block HRW.out; omega)]; exact HRW.out
  have HFU : Hid (∀ w', Below U.heap.size U w' → Prs F w' (.slice ao n cap) l) := fun w' hb => by
    rw [← hn.out]
    refine HF.out.frame (Plain.good _) ((Agree.below ?_).trans (Agree.below hb))
    rw [← HXU0.out]
    exact (Below.refl _ _).alloc (Nat.le_refl _) _
  obtain ⟨x, hx⟩ := hide (newK l key val)
  have HXW : Hid (∀ w', Below U.heap.size U w' → w'.heap[X]? = some (.cells #[str key, str val, .int .i64 xv] 25 (0, 0))) := fun w' hb => by
    rw [hb.block _ (lt_of_block HXU.out), HXU.out]
    show some (Obj.cells #[str key, str val, .int .i64 ((oldK l key).ver + 1)] _ _) = _
    rw [Hxv.out]
  have HRr : Hid (rowPair x = [str key, str val, .int .i64 xv]) := by show _ = _; rw [← hx.out, ← Hxv.out]; rfl
  have HRX : Hid (∀ w', Below U.heap.size U w' → w'.heap[R]? = some (.cells zeroRes.toArray 56 (0, 0))) := fun w' hb => (hb.block _ (lt_of_block HRU.out)).trans HRU.out
  obtain ⟨O, hO⟩ := hide (outR l key x)
  have HOl : Hid (∀ i, i ≤ n → (O i).length ≤ 70) := by
    intro i hi
    have hne := hn.out
    rw [← hO.out]
    unfold outR
    split
    · rw [List.length_take]; omega
    · rw [List.length_append, List.length_cons, List.length_take, List.length_drop, List.length_take]; omega
  have Hend : Hid (putL l key val = if k < n then O n else O n ++ [x]) := by
    show _ = _
    rw [← hO.out, ← hx.out, ← hkq.out, ← hn.out]
    exact (outR_end val).symm
  have HRlo : Hid (w.heap.size ≤ R) := by show _ ≤ _; rw [hR.out]; exact Nat.le_refl _
  have HUw : Hid (w.heap.size ≤ U.heap.size) := HbU.out.size
  have HEnd : Hid (∀ wr a c m, (m = (putL l key val).length) → Below U.heap.size U wr → OwnP U.heap.size wr (.slice a m c) (putL l key val) → post (.returned (.tuple #[.slice a m c, vResK 1 [] xv (.slice none 0 0)])) (setAll wr R (rowRes 1 [] xv (.slice none 0 0))).drew ∧ (setAll wr R (rowRes 1 [] xv (.slice none 0 0))).drew.heap[R]? = some (.cells (rowRes 1 [] xv (.slice none 0 0)).toArray 56 (0, 0))) := by
    intro wr a c m hm hb ho
    have hRr := HRX.out wr hb
    refine ⟨?_, setAll_at (xs := zeroRes) hRr _ rfl⟩
    rw [← HP.out]
    refine ⟨_, by rw [Hxv.out], ?_, (setAll_below (HbU.out.trans (hb.mono HUw.out)) HRlo.out _).drew⟩
    refine World.ownsRow.drew (own_chg (own_base ho HUw.out) (setFrom_chg R (rowRes 1 [] xv (.slice none 0 0)) wr 0) (fun g h1 h2 => ?_))
    have e' : g = R := h2
    exact own_blk_ne ho hRr (by decide) (by rw [← e']; exact h1)
  rw [hn.out] at hcap hmax hn32
  rw [hn.out]
  have Hhi : Hid (∀ i (hi : i < l.length), k < i → l[i].key ≠ key) := fun i hi h => place_ne Ho.out hi (by rw [hkq.out]; exact h)
  have Hlo : Hid (∀ i (hi : i < l.length), i < k → lt l[i].key key = true) := fun i hi h => place_lo hi (by rw [hkq.out]; exact h)
  have Hat : Hid (∀ i (hi : i < l.length), k ≤ i → lt l[i].key key = false) := fun i hi h => place_hi Ho.out hi (by rw [hkq.out]; exact h)
  clear h ho hf hq HF
  go_enter Tryd.func45, Tryd.ntmps45
  go_upto_region 1 with fail
  rw [hW.out, hR.out]
  go_wp2_with fail
  refine KG.out.mono ?_
  rintro e w1 ⟨rfl, rfl⟩
  dsimp only
  go_upto_region 7 with fail
  rw [hU.out]
  rw [hX.out]
  clear t1 t2
  go_wp2_with fail
  go_loopw [10, 11, 12] (fun s10 s11 s12 wr => ∃ i : Nat, ∃ a c d, s12 = .int .i64 i ∧ i ≤ n ∧ s11 = .bool d ∧ Hid (d = decide (k < i)) ∧ s10 = .slice a (O i).length c ∧ Hid (OwnP U.heap.size wr (.slice a (O i).length c) (O i)) ∧ Hid (Below U.heap.size U wr)) (fun _ _ s12 _ => n - (intOf s12).toNat)
  case atStart => exact ⟨0, none, 0, false, rfl, Nat.zero_le _, rfl, (decide_eq_false (by omega)).symm, by rw [← hO.out, outR_zero]; rfl, by rw [← hO.out, outR_zero]; exact World.ownsRow_nil _ _ _ _, Below.refl _ _⟩
  case round =>
    obtain ⟨i, a, c, d, rfl, hin, rfl, hd, rfl, ho, hb⟩ := hrel
    have HXb := HXW.out _ hb.out
    have x0 := cell_n HXb 0 (v := str key) rfl
    have x1 := cell_n HXb 1 (v := str val) rfl
    have x2 := cell_n HXb 2 (v := .int .i64 xv) rfl
    have HUr : Hid (U.heap.size ≤ wr.heap.size) := hb.out.size
    have HLB := Lib.hid (HOl.out i hin)
    clear HXb
    by_cases hlt : i < n
    · have hil : i < l.length := by rw [hn.out]; exact hlt
      obtain ⟨b', off', e1, c0, c1, c2⟩ := Sl.three (HFU.out _ hb.out) hil
      subst e1
      have hii : (i : Int) < (n : Int) := by omega
      rcases Nat.lt_trichotomy i k with hik | hik | hik
      · have HO1 : Hid (O (i + 1) = O i ++ [l[i]]) := by show _ = _; rw [← hO.out]; exact outR_lo hil (by rw [hkq.out]; exact hik)
        have hl1 := Hlo.out i hil hik
        have hne := lt_ne hl1
        obtain rfl : false = d := by rw [hd.out]; exact (decide_eq_false (by omega)).symm
        obtain ⟨y, hy⟩ := hide l[i]
        rw [hy.out] at c0 c1 c2 HO1 hl1 hne
        have v1 : Op.bytesLess key y.key = false := lt_asym hl1
        have v2 : (key == y.key) = false := beq_eq_false_iff_ne.2 (fun e => hne e.symm)
        have u2 : (y.key == key) = false := beq_eq_false_iff_ne.2 hne
        have u3 : (y.key != key) = true := by simp [u2, bne]
        clear hl1 hne
        go_wp2_with (at_builtin; refine wpList_push rfl _ _ 22 rfl U.heap.size 25 _ 3 40 Tryd.underlying22 info_pairK rfl (by decide) _ _ _ rfl ho.out _ rfl rfl (by intro u hu; simp at hu; rcases hu with rfl | rfl | rfl <;> rfl) (by have := HLB.out; unfold maxLen; omega) (by have := HLB.out; omega) HUr.out ?_)
        intro v2 w2 ho2 hg2
        obtain ⟨a2, c2', rfl⟩ := owns_slice ho2
        have Ho2 : Hid (OwnP U.heap.size w2 (.slice a2 (O (i + 1)).length c2') (O (i + 1))) := by
          show w2.ownsRow _ _ _ _ _ _
          rw [HO1.out, List.length_append, List.flatMap_append]
          exact ho2
        have Hb2 : Hid (Below U.heap.size U w2) := hb.out.trans (below_own ho.out hg2 (Nat.le_refl _) HUr.out)
        clear ho2 hg2
        go_wp2_with fail
        go_roundw
        case rel => exact ⟨i + 1, a2, c2', _, by go_num, by omega, rfl, (decide_eq_false (by omega)).symm, by rw [HO1.out, List.length_append]; rfl, Ho2, Hb2⟩
        case measure => simp [intOf]; omega
      · have hat := Hat.out i hil (by omega)
        obtain rfl : false = d := by rw [hd.out]; exact (decide_eq_false (by omega)).symm
        have HO1 : Hid (O (i + 1) = O i ++ [x] ++ [l[i]]) := by show _ = _; rw [← hO.out]; exact outR_new hil (by rw [hkq.out]; exact hik) Hq.out
        have hne : l[i].key ≠ key := isK_no Ho.out Hq.out hil
        have HCL : Hid (∀ w', Below wr.heap.size wr w' → w'.cell? ⟨b', off' + i * 3, none⟩ = some (str l[i].key) ∧ w'.cell? ⟨b', off' + i * 3 + 1, none⟩ = some (str l[i].val) ∧ w'.cell? ⟨b', off' + i * 3 + 2, none⟩ = some (.int .i64 l[i].ver)) := fun w' hb' => ⟨(hb'.cell (p := ⟨b', off' + i * 3, none⟩) (World.block_lt_of_cell? _ _ c0)).trans c0, (hb'.cell (p := ⟨b', off' + i * 3 + 1, none⟩) (World.block_lt_of_cell? _ _ c1)).trans c1, (hb'.cell (p := ⟨b', off' + i * 3 + 2, none⟩) (World.block_lt_of_cell? _ _ c2)).trans c2⟩
        have HFr : Hid (∀ w', Below U.heap.size U w' → w'.cell? ⟨b', off' + i * 3, none⟩ = some (str l[i].key) ∧ w'.cell? ⟨b', off' + i * 3 + 1, none⟩ = some (str l[i].val) ∧ w'.cell? ⟨b', off' + i * 3 + 2, none⟩ = some (.int .i64 l[i].ver)) := fun w' hb' => by
          obtain ⟨b2, off2, e1, c0', c1', c2'⟩ := Sl.three (HFU.out _ hb') hil
          injection e1 with e1
          injection e1 with e1 e2
          subst e1 e2
          exact ⟨c0', c1', c2'⟩
        clear HCL
        obtain ⟨y, hy⟩ := hide l[i]
        rw [hy.out] at c0 c1 c2 HO1 hat hne
        simp only [hy.out] at HFr
        have v1 : Op.bytesLess key y.key = true := lt_of_not_eq_not hat hne
        have v2 : (key == y.key) = false := beq_eq_false_iff_ne.2 (fun e => hne e.symm)
        have Hik := Lib.hid hik
        have u2 : (y.key == key) = false := beq_eq_false_iff_ne.2 hne
        have u3 : (y.key != key) = true := by simp [u2, bne]
        clear hat hne hik
        go_wp2_with (at_builtin; refine wpList_push rfl _ _ 22 rfl U.heap.size 25 _ 3 40 Tryd.underlying22 info_pairK rfl (by decide) _ _ _ rfl ho.out _ rfl rfl (by intro u hu; simp at hu; rcases hu with rfl | rfl | rfl <;> rfl) (by have := HLB.out; unfold maxLen; omega) (by have := HLB.out; omega) HUr.out ?_)
        intro v2 w2 ho2 hg2
        obtain ⟨a2, c2', rfl⟩ := owns_slice ho2
        have Ho2 : Hid (OwnP U.heap.size w2 (.slice a2 (O i ++ [x]).length c2') (O i ++ [x])) := by
          show w2.ownsRow _ _ _ _ _ _
          rw [List.length_append, List.flatMap_append, List.flatMap_cons, HRr.out]
          exact ho2
        have Hb2 : Hid (Below U.heap.size U w2) := hb.out.trans (below_own ho.out hg2 (Nat.le_refl _) HUr.out)
        have HUr2 : Hid (U.heap.size ≤ w2.heap.size) := Hb2.out.size
        obtain ⟨L, hL⟩ := hide (O i ++ [x])
        have HLB2 : Hid (L.length ≤ 71) := by show _ ≤ _; rw [← hL.out, List.length_append]; have := HLB.out; simp; omega
        have hLl : (O i).length + 1 = L.length := by rw [← hL.out, List.length_append]; rfl
        rw [hL.out] at Ho2 HO1
        clear ho2 hg2 c0 c1 c2 x0 x1 x2
        obtain ⟨c0, c1, c2⟩ := HFr.out _ Hb2.out
        rw [hLl]
        have HLl := Lib.hid hLl
        clear hLl
        go_wp2_with (at_builtin; refine wpList_push rfl _ _ 22 rfl U.heap.size 25 _ 3 40 Tryd.underlying22 info_pairK rfl (by decide) _ _ _ rfl Ho2.out _ rfl rfl (by intro u hu; simp at hu; rcases hu with rfl | rfl | rfl <;> rfl) (by have := HLB2.out; unfold maxLen; omega) (by have := HLB2.out; omega) HUr2.out ?_)
        intro v3 w3 ho3 hg3
        obtain ⟨a3, c3', rfl⟩ := owns_slice ho3
        have Ho3 : Hid (OwnP U.heap.size w3 (.slice a3 (O (i + 1)).length c3') (O (i + 1))) := by
          show w3.ownsRow _ _ _ _ _ _
          rw [HO1.out, List.length_append, List.flatMap_append]
          exact ho3
        have Hb3 : Hid (Below U.heap.size U w3) := Hb2.out.trans (below_own Ho2.out hg3 (Nat.le_refl _) HUr2.out)
        clear ho3 hg3
        go_wp2_with fail
        go_roundw
        case rel => exact ⟨i + 1, a3, c3', _, by go_num, by omega, rfl, (decide_eq_true (by have := Hik.out; omega)).symm, by rw [HO1.out, List.length_append]; rfl, Ho3, Hb3⟩
        case measure => simp [intOf]; omega
      · have HO1 : Hid (O (i + 1) = O i ++ [l[i]]) := by show _ = _; rw [← hO.out]; exact outR_hi hil (by rw [hkq.out]; exact hik)
        have hne := Hhi.out i hil hik
        obtain rfl : true = d := by rw [hd.out]; exact (decide_eq_true (by omega)).symm
        obtain ⟨y, hy⟩ := hide l[i]
        rw [hy.out] at c0 c1 c2 HO1 hne
        have u2 : (y.key == key) = false := beq_eq_false_iff_ne.2 hne
        have u3 : (y.key != key) = true := by simp [u2, bne]
        clear hne
        go_wp2_with (at_builtin; refine wpList_push rfl _ _ 22 rfl U.heap.size 25 _ 3 40 Tryd.underlying22 info_pairK rfl (by decide) _ _ _ rfl ho.out _ rfl rfl (by intro u hu; simp at hu; rcases hu with rfl | rfl | rfl <;> rfl) (by have := HLB.out; unfold maxLen; omega) (by have := HLB.out; omega) HUr.out ?_)
        intro v2 w2 ho2 hg2
        obtain ⟨a2, c2', rfl⟩ := owns_slice ho2
        have Ho2 : Hid (OwnP U.heap.size w2 (.slice a2 (O (i + 1)).length c2') (O (i + 1))) := by
          show w2.ownsRow _ _ _ _ _ _
          rw [HO1.out, List.length_append, List.flatMap_append]
          exact ho2
        have Hb2 : Hid (Below U.heap.size U w2) := hb.out.trans (below_own ho.out hg2 (Nat.le_refl _) HUr.out)
        clear ho2 hg2
        go_wp2_with fail
        go_roundw
        case rel => exact ⟨i + 1, a2, c2', _, by go_num, by omega, rfl, (decide_eq_true (by omega)).symm, by rw [HO1.out, List.length_append]; rfl, Ho2, Hb2⟩
        case measure => simp [intOf]; omega
    · obtain rfl : n = i := by omega
      by_cases hkn2 : k < n
      · obtain rfl : true = d := by rw [hd.out]; exact (decide_eq_true (by omega)).symm
        have Hput : Hid (putL l key val = O n) := Hend.out.trans (if_pos hkn2)
        have HM : Hid ((O n).length = (putL l key val).length) := by show _ = _; rw [Hput.out]
        have HOX : Hid (OwnP U.heap.size wr (.slice a (O n).length c) (putL l key val)) := by show World.ownsRow _ _ _ _ _ _ _; rw [Hput.out]; exact ho.out
        have HBX := hb
        clear x0 x1
        obtain ⟨m, hm⟩ := hide (O n).length
        rw [hm.out] at HM HOX ⊢
        obtain ⟨f0, f1, f2, f3⟩ := four_freeK (HRX.out _ HBX.out)
        obtain ⟨r0, r1, r2, r3⟩ := four_cellsK (HRX.out _ HBX.out)
        go_upto_region 19 with fail
        go_region
        all_goals
          try go_wp2_with fail
          change bodyPost _ _ _ Exit.ret _ (setAll wr R (rowRes 1 [] xv (.slice none 0 0))).drew
          obtain ⟨HE, HER⟩ := HEnd.out wr a c m HM.out HBX.out HOX.out
          generalize (setAll wr R (rowRes 1 [] xv (.slice none 0 0))).drew = W9 at HE HER ⊢
          clear r0 r1 r2 r3 f0 f1 f2 f3
          obtain ⟨r0, r1, r2, r3⟩ := four_cellsK HER
          have HE := Lib.hid HE
          refine bodyPost_ret (by simp [results, Tryd.results45, go_sem, r0, r1, r2, r3]; rfl) rfl ?_
          exact HE.out
      · obtain rfl : false = d := by rw [hd.out]; exact (decide_eq_false (by omega)).symm
        have Hput : Hid (putL l key val = O n ++ [x]) := Hend.out.trans (if_neg hkn2)
        go_wp2_with (at_builtin; refine wpList_push rfl _ _ 22 rfl U.heap.size 25 _ 3 40 Tryd.underlying22 info_pairK rfl (by decide) _ _ _ rfl ho.out _ rfl rfl (by intro u hu; simp at hu; rcases hu with rfl | rfl | rfl <;> rfl) (by have := HLB.out; unfold maxLen; omega) (by have := HLB.out; omega) HUr.out ?_)
        intro v2 w2 ho2 hg2
        obtain ⟨a2, c2', rfl⟩ := owns_slice ho2
        have HM : Hid ((O n).length + 1 = (putL l key val).length) := by show _ = _; rw [Hput.out, List.length_append]; rfl
        have HOX : Hid (OwnP U.heap.size w2 (.slice a2 ((O n).length + 1) c2') (putL l key val)) := by
          show w2.ownsRow _ _ _ _ _ _
          rw [Hput.out, List.length_append, List.flatMap_append, List.flatMap_cons, HRr.out]
          exact ho2
        have HBX : Hid (Below U.heap.size U w2) := hb.out.trans (below_own ho.out hg2 (Nat.le_refl _) HUr.out)
        clear ho2 hg2 x0 x1 x2
        have x2 := cell_n (HXW.out _ HBX.out) 2 (v := .int .i64 xv) rfl
        obtain ⟨m, hm⟩ := hide ((O n).length + 1)
        rw [hm.out] at HM HOX ⊢
        obtain ⟨f0, f1, f2, f3⟩ := four_freeK (HRX.out _ HBX.out)
        obtain ⟨r0, r1, r2, r3⟩ := four_cellsK (HRX.out _ HBX.out)
        go_upto_region 19 with fail
        go_region
        all_goals
          try go_wp2_with fail
          change bodyPost _ _ _ Exit.ret _ (setAll w2 R (rowRes 1 [] xv (.slice none 0 0))).drew
          obtain ⟨HE, HER⟩ := HEnd.out w2 a2 c2' m HM.out HBX.out HOX.out
          generalize (setAll w2 R (rowRes 1 [] xv (.slice none 0 0))).drew = W9 at HE HER ⊢
          clear r0 r1 r2 r3 f0 f1 f2 f3
          obtain ⟨r0, r1, r2, r3⟩ := four_cellsK HER
          have HE := Lib.hid HE
          refine bodyPost_ret (by simp [results, Tryd.results45, go_sem, r0, r1, r2, r3]; rfl) rfl ?_
          exact HE.out

set_option maxHeartbeats 4000000 in
set_option maxRecDepth 100000 in
theorem refPut_old (key val : List UInt8) (v : Value) (l : List PairP) (F : Nat → Prop) (w : World) (h : Prs F w v l) (ho : OkPs l) (hf : fullK l key val = false) (hq : isK l key = true) :
    Calls Tryd.prog 45 #[v, str key, str val] w fun e w' => ∃ bv, e = .returned (.tuple #[bv, vResK 1 [] ((oldK l key).ver + 1) (.slice none 0 0)]) ∧ OwnP w.heap.size w' bv (putL l key val) ∧ Below w.heap.size w w' := by
  obtain ⟨post, HP⟩ := hide (fun (e : Ending) (w' : World) => ∃ bv, e = .returned (.tuple #[bv, vResK 1 [] ((oldK l key).ver + 1) (.slice none 0 0)]) ∧ OwnP w.heap.size w' bv (putL l key val) ∧ Below w.heap.size w w')
  rw [HP.out]
  obtain ⟨ao, cap, rfl, hcap, hmax⟩ := h.slice
  obtain ⟨W, hW⟩ := hide (w.alloc (.cells zeroRes.toArray 56))
  obtain ⟨R, hR⟩ := hide w.heap.size
  have HbW : Hid (Below w.heap.size w W) := by show Below _ _ _; rw [← hW.out]; exact (Below.refl _ _).alloc (Nat.le_refl _) _
  have HRW : Hid (W.heap[R]? = some (.cells zeroRes.toArray 56 (0, 0))) := by show _ = _; rw [← hW.out, ← hR.out]; exact hp_at _ _ rfl
  have HF : Hid (Prs F W (.slice ao l.length cap) l) := h.frame (Plain.good _) (Agree.below HbW.out)
  have KG := Lib.hid (refGet_law key _ l F W HF.out ho)
  obtain ⟨k, hkq⟩ := hide (place l key)
  obtain ⟨n, hn⟩ := hide l.length
  have hn32 := ho.n
  have hv64 : val.length ≤ 64 := by
    unfold fullK at hf
    by_cases h64 : 64 < val.length
    · simp [h64] at hf
    · omega
  have hkn : k ≤ n := by rw [← hkq.out, ← hn.out]; exact place_le _ _
  have Ho := Lib.hid ho
  have Hq := Lib.hid hq
  obtain ⟨h1, h1k⟩ := isK_at hq
  simp only [hkq.out] at h1 h1k
  have hold : oldK l key = l[k] := by unfold oldK; rw [if_pos hq, List.getD_eq_getElem?_getD]; simp only [hkq.out]; rw [List.getElem?_eq_getElem h1]; rfl
  have hve : l[k].ver ≠ 1099511627775 := by
    unfold fullK at hf
    rw [hold, hq] at hf
    simp at hf
    exact hf.2
  have hver := ho.ver _ (List.getElem_mem h1)
  have hgr : getR l key = (k : Int) := by unfold getR; rw [hq, if_pos rfl, hkq.out]
  rw [hn.out, hgr] at KG
  obtain ⟨b, off, e1, g0, g1, g2⟩ := Sl.three HF.out h1
  subst e1
  obtain ⟨U, hU⟩ := hide (W.alloc (.cells #[str key, str val, .int .i64 (l[k].ver + 1)] 25))
  obtain ⟨xv, hxv⟩ := hide (l[k].ver + 1)
  have Hxv : Hid ((oldK l key).ver + 1 = xv) := by show _ = _; rw [hold, hxv.out]
  have HXU0 : Hid (W.alloc (.cells #[str key, str val, .int .i64 xv] 25) = U) := by show _ = _; rw [← hxv.out]; exact hU.out
  obtain ⟨ve, hve2⟩ := hide l[k].ver
  rw [hve2.out] at hver hve g2 hU
  have t2 : (ve == 1099511627775) = false := beq_eq_false_iff_ne.2 hve
  have t3 : decide ((k : Int) < 0) = false := decide_eq_false (by omega)
  have t4 : decide (0 ≤ (k : Int)) = true := decide_eq_true (by omega)
  have hki : (k : Int) < (n : Int) := by rw [hn.out] at h1; omega
  have hkl2 : k < n := by omega
  have g5 : (W.alloc (.cells #[str key, str val, .int .i64 1] 25)).cell? ⟨b, off + k * 3 + 2, none⟩ = some (.int .i64 ve) := (World.cell?_of_block (hp_past W _ (Nat.ne_of_lt (lt_of_cell g2)))).trans g2
  clear g0 g1 h1k hold hve hgr
  have hv1 := hver.1
  have hv2 := hver.2
  clear hver hxv hve2 h1
  have t1 : decide ((64 : Int) < (val.length : Int)) = false := decide_eq_false (by omega)
  obtain ⟨X, hX⟩ := hide W.heap.size
  have HbU : Hid (Below w.heap.size w U) := by show Below _ _ _; rw [← HXU0.out]; exact HbW.out.alloc HbW.out.size _
  have HXU : Hid (U.heap[X]? = some (.cells (rowPair (newK l key val)).toArray 25 (0, 0))) := by show _ = _; rw [← HXU0.out, ← hX.out]; rw [hp_at _ _ rfl]; show _ = some (Obj.cells #[str key, str val, .int .i64 ((oldK l key).ver + 1)] _ _); rw [Hxv.out]
  have HRU : Hid (U.heap[R]? = some (.cells zeroRes.toArray 56 (0, 0))) := by show _ = _; rw [← HXU0.out]; rw [hp_past _ _ (by have := lt_of_block HRW.out; omega)]; exact HRW.out
  have HFU : Hid (∀ w', Below U.heap.size U w' → Prs F w' (.slice (some ⟨b, off, none⟩) n cap) l) := fun w' hb => by
    rw [← hn.out]
    refine HF.out.frame (Plain.good _) ((Agree.below ?_).trans (Agree.below hb))
    rw [← HXU0.out]
    exact (Below.refl _ _).alloc (Nat.le_refl _) _
  obtain ⟨x, hx⟩ := hide (newK l key val)
  have HXW : Hid (∀ w', Below U.heap.size U w' → w'.heap[X]? = some (.cells #[str key, str val, .int .i64 xv] 25 (0, 0))) := fun w' hb => by
    rw [hb.block _ (lt_of_block HXU.out), HXU.out]
    show some (Obj.cells #[str key, str val, .int .i64 ((oldK l key).ver + 1)] _ _) = _
    rw [Hxv.out]
  have HRr : Hid (rowPair x = [str key, str val, .int .i64 xv]) := by show _ = _; rw [← hx.out, ← Hxv.out]; rfl
  have HRX : Hid (∀ w', Below U.heap.size U w' → w'.heap[R]? = some (.cells zeroRes.toArray 56 (0, 0))) := fun w' hb => (hb.block _ (lt_of_block HRU.out)).trans HRU.out
  obtain ⟨O, hO⟩ := hide (outR l key x)
  have HOl : Hid (∀ i, i ≤ n → (O i).length ≤ 70) := by
    intro i hi
    have hne := hn.out
    rw [← hO.out]
    unfold outR
    split
    · rw [List.length_take]; omega
    · rw [List.length_append, List.length_cons, List.length_take, List.length_drop, List.length_take]; omega
  have Hend : Hid (putL l key val = if k < n then O n else O n ++ [x]) := by
    show _ = _
    rw [← hO.out, ← hx.out, ← hkq.out, ← hn.out]
    exact (outR_end val).symm
  have HRlo : Hid (w.heap.size ≤ R) := by show _ ≤ _; rw [hR.out]; exact Nat.le_refl _
  have HUw : Hid (w.heap.size ≤ U.heap.size) := HbU.out.size
  have HEnd : Hid (∀ wr a c m, (m = (putL l key val).length) → Below U.heap.size U wr → OwnP U.heap.size wr (.slice a m c) (putL l key val) → post (.returned (.tuple #[.slice a m c, vResK 1 [] xv (.slice none 0 0)])) (setAll wr R (rowRes 1 [] xv (.slice none 0 0))).drew ∧ (setAll wr R (rowRes 1 [] xv (.slice none 0 0))).drew.heap[R]? = some (.cells (rowRes 1 [] xv (.slice none 0 0)).toArray 56 (0, 0))) := by
    intro wr a c m hm hb ho
    have hRr := HRX.out wr hb
    refine ⟨?_, setAll_at (xs := zeroRes) hRr _ rfl⟩
    rw [← HP.out]
    refine ⟨_, by rw [Hxv.out], ?_, (setAll_below (HbU.out.trans (hb.mono HUw.out)) HRlo.out _).drew⟩
    refine World.ownsRow.drew (own_chg (own_base ho HUw.out) (setFrom_chg R (rowRes 1 [] xv (.slice none 0 0)) wr 0) (fun g h1 h2 => ?_))
    have e' : g = R := h2
    exact own_blk_ne ho hRr (by decide) (by rw [← e']; exact h1)
  rw [hn.out] at hcap hmax hn32
  rw [hn.out]
  have Hhi : Hid (∀ i (hi : i < l.length), k < i → l[i].key ≠ key) := fun i hi h => place_ne Ho.out hi (by rw [hkq.out]; exact h)
  have Hlo : Hid (∀ i (hi : i < l.length), i < k → lt l[i].key key = true) := fun i hi h => place_lo hi (by rw [hkq.out]; exact h)
  have Hat : Hid (∀ i (hi : i < l.length), k ≤ i → lt l[i].key key = false) := fun i hi h => place_hi Ho.out hi (by rw [hkq.out]; exact h)
  clear h ho hf hq HF
  go_enter Tryd.func45, Tryd.ntmps45
  go_upto_region 1 with fail
  rw [hW.out, hR.out]
  go_wp2_with fail
  refine KG.out.mono ?_
  rintro e w1 ⟨rfl, rfl⟩
  dsimp only
  go_upto_region 7 with fail
  rw [hU.out]
  rw [hX.out]
  clear t1 t2 t3 t4 g2 g5 hv1 hv2
  go_wp2_with fail
  go_loopw [10, 11, 12] (fun s10 s11 s12 wr => ∃ i : Nat, ∃ a c d, s12 = .int .i64 i ∧ i ≤ n ∧ s11 = .bool d ∧ Hid (d = decide (k < i)) ∧ s10 = .slice a (O i).length c ∧ Hid (OwnP U.heap.size wr (.slice a (O i).length c) (O i)) ∧ Hid (Below U.heap.size U wr)) (fun _ _ s12 _ => n - (intOf s12).toNat)
  case atStart => exact ⟨0, none, 0, false, rfl, Nat.zero_le _, rfl, (decide_eq_false (by omega)).symm, by rw [← hO.out, outR_zero]; rfl, by rw [← hO.out, outR_zero]; exact World.ownsRow_nil _ _ _ _, Below.refl _ _⟩
  case round =>
    obtain ⟨i, a, c, d, rfl, hin, rfl, hd, rfl, ho, hb⟩ := hrel
    have HXb := HXW.out _ hb.out
    have x0 := cell_n HXb 0 (v := str key) rfl
    have x1 := cell_n HXb 1 (v := str val) rfl
    have x2 := cell_n HXb 2 (v := .int .i64 xv) rfl
    have HUr : Hid (U.heap.size ≤ wr.heap.size) := hb.out.size
    have HLB := Lib.hid (HOl.out i hin)
    clear HXb
    by_cases hlt : i < n
    · have hil : i < l.length := by rw [hn.out]; exact hlt
      obtain ⟨b', off', e1, c0, c1, c2⟩ := Sl.three (HFU.out _ hb.out) hil
      injection e1 with e1
      injection e1 with e1 e2
      subst e1 e2
      have hii : (i : Int) < (n : Int) := by omega
      rcases Nat.lt_trichotomy i k with hik | hik | hik
      · have HO1 : Hid (O (i + 1) = O i ++ [l[i]]) := by show _ = _; rw [← hO.out]; exact outR_lo hil (by rw [hkq.out]; exact hik)
        have hl1 := Hlo.out i hil hik
        have hne := lt_ne hl1
        obtain rfl : false = d := by rw [hd.out]; exact (decide_eq_false (by omega)).symm
        obtain ⟨y, hy⟩ := hide l[i]
        rw [hy.out] at c0 c1 c2 HO1 hl1 hne
        have v1 : Op.bytesLess key y.key = false := lt_asym hl1
        have v2 : (key == y.key) = false := beq_eq_false_iff_ne.2 (fun e => hne e.symm)
        have u2 : (y.key == key) = false := beq_eq_false_iff_ne.2 hne
        have u3 : (y.key != key) = true := by simp [u2, bne]
        clear hl1 hne
        go_wp2_with (at_builtin; refine wpList_push rfl _ _ 22 rfl U.heap.size 25 _ 3 40 Tryd.underlying22 info_pairK rfl (by decide) _ _ _ rfl ho.out _ rfl rfl (by intro u hu; simp at hu; rcases hu with rfl | rfl | rfl <;> rfl) (by have := HLB.out; unfold maxLen; omega) (by have := HLB.out; omega) HUr.out ?_)
        intro v2 w2 ho2 hg2
        obtain ⟨a2, c2', rfl⟩ := owns_slice ho2
        have Ho2 : Hid (OwnP U.heap.size w2 (.slice a2 (O (i + 1)).length c2') (O (i + 1))) := by
          show w2.ownsRow _ _ _ _ _ _
          rw [HO1.out, List.length_append, List.flatMap_append]
          exact ho2
        have Hb2 : Hid (Below U.heap.size U w2) := hb.out.trans (below_own ho.out hg2 (Nat.le_refl _) HUr.out)
        clear ho2 hg2
        go_wp2_with fail
        go_roundw
        case rel => exact ⟨i + 1, a2, c2', _, by go_num, by omega, rfl, (decide_eq_false (by omega)).symm, by rw [HO1.out, List.length_append]; rfl, Ho2, Hb2⟩
        case measure => simp [intOf]; omega
      · have hat := Hat.out i hil (by omega)
        obtain rfl : false = d := by rw [hd.out]; exact (decide_eq_false (by omega)).symm
        have HO1 : Hid (O (i + 1) = O i ++ [x]) := by show _ = _; rw [← hO.out]; exact outR_old hil (by rw [hkq.out]; exact hik) Hq.out
        have hne : l[i].key = key := by
          obtain ⟨h1, h2⟩ := isK_at Hq.out
          have e : place l key = i := by rw [hkq.out, hik]
          simp only [e] at h2
          exact h2
        have HFr : Hid (∀ w', Below U.heap.size U w' → w'.cell? ⟨b, off + i * 3, none⟩ = some (str l[i].key)) := fun w' hb' => by
          obtain ⟨b2, off2, e1, c0', c1', c2'⟩ := Sl.three (HFU.out _ hb') hil
          injection e1 with e1
          injection e1 with e1 e2
          subst e1 e2
          exact c0'
        obtain ⟨y, hy⟩ := hide l[i]
        rw [hy.out] at c0 c1 c2 hat hne
        simp only [hy.out] at HFr
        have v1 : Op.bytesLess key y.key = false := by rw [← hne]; exact lt_irr _
        have v2 : (key == y.key) = true := beq_iff_eq.2 hne.symm
        have Hik := Lib.hid hik
        have u2 : (y.key == key) = true := beq_iff_eq.2 hne
        have u3 : (y.key != key) = false := by simp [u2, bne]
        clear hat hne hik
        go_wp2_with (at_builtin; refine wpList_push rfl _ _ 22 rfl U.heap.size 25 _ 3 40 Tryd.underlying22 info_pairK rfl (by decide) _ _ _ rfl ho.out _ rfl rfl (by intro u hu; simp at hu; rcases hu with rfl | rfl | rfl <;> rfl) (by have := HLB.out; unfold maxLen; omega) (by have := HLB.out; omega) HUr.out ?_)
        intro v2 w2 ho2 hg2
        obtain ⟨a2, c2', rfl⟩ := owns_slice ho2
        have Ho2 : Hid (OwnP U.heap.size w2 (.slice a2 (O (i + 1)).length c2') (O (i + 1))) := by
          show w2.ownsRow _ _ _ _ _ _
          rw [HO1.out, List.length_append, List.flatMap_append, List.flatMap_cons, HRr.out]
          exact ho2
        have Hb2 : Hid (Below U.heap.size U w2) := hb.out.trans (below_own ho.out hg2 (Nat.le_refl _) HUr.out)
        clear ho2 hg2 c0 c1 c2 x0 x1 x2
        have c0 := HFr.out _ Hb2.out
        go_wp2_with fail
        go_roundw
        case rel => exact ⟨i + 1, a2, c2', _, by go_num, by omega, rfl, (decide_eq_true (by have := Hik.out; omega)).symm, by rw [HO1.out, List.length_append]; rfl, Ho2, Hb2⟩
        case measure => simp [intOf]; omega
      · have HO1 : Hid (O (i + 1) = O i ++ [l[i]]) := by show _ = _; rw [← hO.out]; exact outR_hi hil (by rw [hkq.out]; exact hik)
        have hne := Hhi.out i hil hik
        obtain rfl : true = d := by rw [hd.out]; exact (decide_eq_true (by omega)).symm
        obtain ⟨y, hy⟩ := hide l[i]
        rw [hy.out] at c0 c1 c2 HO1 hne
        have u2 : (y.key == key) = false := beq_eq_false_iff_ne.2 hne
        have u3 : (y.key != key) = true := by simp [u2, bne]
        clear hne
        go_wp2_with (at_builtin; refine wpList_push rfl _ _ 22 rfl U.heap.size 25 _ 3 40 Tryd.underlying22 info_pairK rfl (by decide) _ _ _ rfl ho.out _ rfl rfl (by intro u hu; simp at hu; rcases hu with rfl | rfl | rfl <;> rfl) (by have := HLB.out; unfold maxLen; omega) (by have := HLB.out; omega) HUr.out ?_)
        intro v2 w2 ho2 hg2
        obtain ⟨a2, c2', rfl⟩ := owns_slice ho2
        have Ho2 : Hid (OwnP U.heap.size w2 (.slice a2 (O (i + 1)).length c2') (O (i + 1))) := by
          show w2.ownsRow _ _ _ _ _ _
          rw [HO1.out, List.length_append, List.flatMap_append]
          exact ho2
        have Hb2 : Hid (Below U.heap.size U w2) := hb.out.trans (below_own ho.out hg2 (Nat.le_refl _) HUr.out)
        clear ho2 hg2
        go_wp2_with fail
        go_roundw
        case rel => exact ⟨i + 1, a2, c2', _, by go_num, by omega, rfl, (decide_eq_true (by omega)).symm, by rw [HO1.out, List.length_append]; rfl, Ho2, Hb2⟩
        case measure => simp [intOf]; omega
    · obtain rfl : n = i := by omega
      have hkn2 : k < n := by omega
      obtain rfl : true = d := by rw [hd.out]; exact (decide_eq_true (by omega)).symm
      have Hput : Hid (putL l key val = O n) := Hend.out.trans (if_pos hkn2)
      have HM : Hid ((O n).length = (putL l key val).length) := by show _ = _; rw [Hput.out]
      have HOX : Hid (OwnP U.heap.size wr (.slice a (O n).length c) (putL l key val)) := by show World.ownsRow _ _ _ _ _ _ _; rw [Hput.out]; exact ho.out
      have HBX := hb
      clear x0 x1
      obtain ⟨m, hm⟩ := hide (O n).length
      rw [hm.out] at HM HOX ⊢
      obtain ⟨f0, f1, f2, f3⟩ := four_freeK (HRX.out _ HBX.out)
      obtain ⟨r0, r1, r2, r3⟩ := four_cellsK (HRX.out _ HBX.out)
      go_upto_region 19 with fail
      go_region
      all_goals
        try go_wp2_with fail
        change bodyPost _ _ _ Exit.ret _ (setAll wr R (rowRes 1 [] xv (.slice none 0 0))).drew
        obtain ⟨HE, HER⟩ := HEnd.out wr a c m HM.out HBX.out HOX.out
        generalize (setAll wr R (rowRes 1 [] xv (.slice none 0 0))).drew = W9 at HE HER ⊢
        clear r0 r1 r2 r3 f0 f1 f2 f3
        obtain ⟨r0, r1, r2, r3⟩ := four_cellsK HER
        have HE := Lib.hid HE
        refine bodyPost_ret (by simp [results, Tryd.results45, go_sem, r0, r1, r2, r3]; rfl) rfl ?_
        exact HE.out
end Go.Proofs.YtnmlkoidmacinaaDoor
