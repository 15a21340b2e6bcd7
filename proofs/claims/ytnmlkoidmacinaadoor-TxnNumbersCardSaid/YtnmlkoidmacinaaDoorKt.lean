/-
  The reference's map: what Delete and List do; every command.
-/
import Derived.Test.YtnmlkoidmacinaaDoorKs
namespace Go.Proofs.YtnmlkoidmacinaaDoor
open Go.RowKit Wm Mm Dg Kv
set_option linter.unusedVariables false
set_option linter.unusedSimpArgs false

set_option maxHeartbeats 4000000 in
set_option maxRecDepth 100000 in
theorem ra_delete (c : CmdP) (v : Value) (l : List PairP) (F : Nat → Prop) (w : World) (h : Prs F w v l) (hic : isCommand c.kind c.key c.val c.iff = true) (hip : pairsB l = true) (hkind : c.kind = 3) :
    Calls Tryd.prog 21 #[v, vCmd c.kind c.key c.val c.iff] w (RefPost w l c v) := by
  obtain ⟨post, HP⟩ := hide (RefPost w l c v)
  rw [HP.out]
  obtain ⟨ao, cap, rfl, hcap, hmax⟩ := h.slice
  obtain ⟨C, hC⟩ := hide w.heap.size
  obtain ⟨W, hW⟩ := hide ((w.alloc (.cells (rowCmd c).toArray 37)).alloc (.cells zeroRes.toArray 56))
  obtain ⟨R, hR⟩ := hide (w.heap.size + 1)
  have HbW : Hid (Below w.heap.size w W) := by show Below _ _ _; rw [← hW.out]; exact ((Below.refl _ _).alloc (Nat.le_refl _) _).alloc (by simp) _
  have HCW : Hid (W.heap[C]? = some (.cells (rowCmd c).toArray 37 (0, 0))) := by show _ = _; rw [← hW.out, ← hC.out]; exact (hp_past _ _ (by simp)).trans (hp_at _ _ rfl)
  have HRW : Hid (W.heap[R]? = some (.cells zeroRes.toArray 56 (0, 0))) := by show _ = _; rw [← hW.out, ← hR.out]; exact hp_at _ _ (by simp)
  have HRl : Hid (w.heap.size ≤ R) := by show _ ≤ _; rw [← hR.out]; omega
  have HF : Hid (∀ W', Below W.heap.size W W' → Prs F W' (.slice ao l.length cap) l) := fun W' hb => h.frame (Plain.good _) ((Agree.below HbW.out).trans (Agree.below hb))
  have Hk : Hid (OkPs l) := pairsB_ok hip
  have KI := Lib.hid (ref_isCommand c.kind c.key c.val c.iff W)
  rw [hic] at KI
  have HAP : Hid (applyK l c = doK l c) := by show _ = _; unfold applyK; rw [hic, hip]; rfl
  have Hip := Lib.hid hip
  have Hcp : Hid ((1 ≤ c.kind ∧ c.kind ≤ 6) ∧ c.val.length ≤ 64 ∧ 0 ≤ c.iff) := cmd_parts hic
  obtain ⟨k, hkq⟩ := hide (place l c.key)
  obtain ⟨q, hq⟩ := hide (isK l c.key)
  obtain ⟨n, hn⟩ := hide l.length
  have HP0 := HP
  rw [hn.out] at HP0
  have Hkind := Lib.hid hkind
  have HFn : Hid (∀ W', Below W.heap.size W W' → Prs F W' (.slice ao n cap) l) := by rw [← hn.out]; exact HF
  rw [hn.out]
  clear h hic hip hkind HF hcap hmax
  obtain ⟨k0, k1, k2, k3⟩ := four_cellsK HCW.out
  go_enter Tryd.func21, Tryd.ntmps21
  go_upto_region 1 with fail
  rw [hW.out]
  try rw [hR.out]
  try rw [hC.out]
  go_wp2_with fail
  refine KI.out.mono ?_
  rintro e W3 ⟨rfl, hw3⟩
  have Hb3 : Hid (Below W.heap.size W W3) := by show Below _ _ _; rw [← hw3]; exact (Below.refl _ _).alloc (Nat.le_refl _) _
  have KV := Lib.hid (ref_isPairs _ l W3 (Sl.pairs (HFn.out _ Hb3.out)))
  rw [Hip.out] at KV
  clear hw3 k0 k1 k2 k3
  dsimp only
  go_wp2_with fail
  refine KV.out.mono ?_
  rintro e W4 ⟨rfl, hb4⟩
  have Hb4 : Hid (Below W.heap.size W W4) := Hb3.out.trans (hb4.mono Hb3.out.size)
  clear hb4
  dsimp only
  have HC4 : W4.heap[C]? = some (.cells (rowCmd c).toArray 37 (0, 0)) := (Hb4.out.block _ (lt_of_block HCW.out)).trans HCW.out
  have k1 := cell_n HC4 1 (v := str c.key) rfl
  have KG := Lib.hid (refGet_law c.key _ l F W4 (HFn.out _ Hb4.out) Hk.out)
  clear HC4
  go_upto_region 5 with fail
  go_wp2_with fail
  refine KG.out.mono ?_
  rintro e w1 ⟨rfl, rfl⟩
  dsimp only
  clear k1
  obtain ⟨gr, hgr⟩ := hide (getR l c.key)
  have Hgr : Hid (gr = if q then (k : Int) else -1) := by show _ = _; rw [← hgr.out]; unfold getR; rw [hq.out, hkq.out]
  rw [hgr.out]
  go_upto_region 7 with fail
  obtain ⟨W2, hW2⟩ := hide (W4.alloc (.cells #[.string ⟨#[]⟩, .string ⟨#[]⟩, .int .i64 0] 25))
  obtain ⟨P, hP⟩ := hide W4.heap.size
  have HbW2 : Hid (Below W.heap.size W W2) := by show Below _ _ _; rw [← hW2.out]; exact Hb4.out.alloc Hb4.out.size _
  have HC2 : Hid (W2.heap[C]? = some (.cells (rowCmd c).toArray 37 (0, 0))) := (HbW2.out.block _ (lt_of_block HCW.out)).trans HCW.out
  have HR2 : Hid (W2.heap[R]? = some (.cells zeroRes.toArray 56 (0, 0))) := (HbW2.out.block _ (lt_of_block HRW.out)).trans HRW.out
  have HP2 : Hid (W2.heap[P]? = some (.cells (rowPair zeroP).toArray 25 (0, 0))) := by show _ = _; rw [← hW2.out, ← hP.out]; exact hp_at _ _ rfl
  have HPl : Hid (W.heap.size ≤ P) := by show _ ≤ _; rw [← hP.out]; exact Hb4.out.size
  have HB0 : Hid (Below w.heap.size w W2) := HbW.out.trans (HbW2.out.mono HbW.out.size)
  rw [hW2.out, hP.out]
  go_upto_if 33 with fail
  go_cut [] from 34 to 37 (fun wx => Hid (RAt w wx C R P l c) ∧ Hid (Below W.heap.size W wx))
  case first =>
    cases q
    · have hold : oldK l c.key = zeroP := oldK_no hq.out
      have HD : Hid (RAt w W2 C R P l c) := ⟨HC2.out, HR2.out, by rw [hold]; exact HP2.out, HB0.out, HRl.out⟩
      obtain rfl : gr = -1 := by rw [Hgr.out, if_neg (by decide)]
      clear hold hgr
      go_wp2_with fail
      go_meet
      exact ⟨HD, HbW2⟩
    · obtain ⟨hkl, hkey⟩ := isK_at hq.out
      have hold : oldK l c.key = l[place l c.key] := by unfold oldK; rw [if_pos hq.out, List.getD_eq_getElem?_getD, List.getElem?_eq_getElem hkl]; rfl
      simp only [hkq.out] at hkl hold hkey
      have hkn : k < n := by rw [← hn.out]; exact hkl
      obtain rfl : gr = (k : Int) := by rw [Hgr.out, if_pos rfl]
      obtain ⟨b, off, e1, p0, p1, p2⟩ := Sl.three (HFn.out _ HbW2.out) hkl
      subst e1
      obtain ⟨y, hy⟩ := hide l[k]
      rw [hy.out] at p0 p1 p2 hold
      have t0 : decide (0 ≤ (k : Int)) = true := decide_eq_true (by omega)
      have f0 := free_n HP2.out 0
      have f1 := free_n HP2.out 1
      have f2 := free_n HP2.out 2
      have z0 := cell_n HP2.out 0 (v := .string ⟨#[]⟩) rfl
      have z1 := cell_n HP2.out 1 (v := .string ⟨#[]⟩) rfl
      have z2 := cell_n HP2.out 2 (v := .int .i64 0) rfl
      have hki : (k : Int) < (n : Int) := by omega
      have HD : Hid (RAt w (setAll W2 P (rowPair y)) C R P l c) := by
        have hpc : P ≠ C := fun e => by have := HPl.out; have := lt_of_block HCW.out; omega
        have hpr : P ≠ R := fun e => by have := HPl.out; have := lt_of_block HRW.out; omega
        refine ⟨setAll_other HC2.out hpc _, setAll_other HR2.out hpr _, by rw [hold]; exact setAll_at (xs := rowPair zeroP) HP2.out _ rfl, setAll_below HB0.out (by have h1 := HPl.out; have h2 := HbW.out.size; omega) _, HRl.out⟩
      have HD2 : Hid (Below W.heap.size W (setAll W2 P (rowPair y))) := setAll_below HbW2.out HPl.out _
      clear hold hkey hgr
      go_wp2_with fail
      go_meet
      exact ⟨HD, HD2⟩
  case rest =>
    obtain ⟨V, hV⟩ : ∃ V, V = wc := ⟨_, rfl⟩
    subst hV
    obtain ⟨HD, HbV⟩ := hcut
    have HFV : Hid (∀ W', Below V.heap.size V W' → Prs F W' (.slice ao n cap) l) := fun W' hb => HFn.out _ (HbV.out.trans (hb.mono HbV.out.size))
    have HVw : Hid (w.heap.size ≤ V.heap.size) := HD.out.bel.size
    have k0 := cell_n HD.out.cc 0 (v := .int .i64 c.kind) rfl
    have k1 := cell_n HD.out.cc 1 (v := str c.key) rfl
    have k2 := cell_n HD.out.cc 2 (v := str c.val) rfl
    have k3 := cell_n HD.out.cc 3 (v := .int .i64 c.iff) rfl
    have p1 := cell_n HD.out.pp 1 (v := str (oldK l c.key).val) rfl
    have p2 := cell_n HD.out.pp 2 (v := .int .i64 (oldK l c.key).ver) rfl
    obtain ⟨yv, hyv⟩ := hide (oldK l c.key).val
    obtain ⟨yr, hyr⟩ := hide (oldK l c.key).ver
    rw [hyv.out] at p1
    rw [hyr.out] at p2
    have t1 : (c.kind == 1) = false := by rw [Hkind.out]; rfl
    have t5 : (c.kind == 5) = false := by rw [Hkind.out]; rfl
    have t4 : (c.kind == 4) = false := by rw [Hkind.out]; rfl
    have t6 : (c.kind == 6) = false := by rw [Hkind.out]; rfl
    have t2 : (c.kind == 2) = false := by rw [Hkind.out]; rfl
    have hg : decide (gr < 0) = !q := by
      rw [Hgr.out]
      cases q
      · rfl
      · exact decide_eq_false (by rw [if_pos rfl]; omega)
    cases q
    · have Hd : Hid (doK l c = (l, ⟨2, [], 0, []⟩)) := by
        show _ = _
        unfold doK
        rw [if_neg (by rw [Hkind.out]; decide), if_neg (by rw [Hkind.out]; decide), if_neg (by rw [Hkind.out]; decide), if_neg (by rw [Hkind.out]; decide), if_pos hq.out]
      rw [Bool.not_false] at hg
      obtain ⟨HE0, HER⟩ := HD.out.fin (v := .slice ao n cap) (bv := (.slice ao n cap)) (kv := (.slice none 0 0)) (kd := 2) (val := []) (ver := 0) (Below.refl _ _) (HAP.out.trans Hd.out) (Or.inl ⟨rfl, rfl⟩) (World.ownsRow_nil _ _ _ _) (w' := (setAll V R (rowRes 2 [] 0 (.slice none 0 0)))) (Or.inl rfl)
      have HE : Hid (post (.returned (.tuple #[(.slice ao n cap), vResK 2 [] 0 (.slice none 0 0)])) (setAll V R (rowRes 2 [] 0 (.slice none 0 0)))) := by show post _ _; rw [← HP0.out]; exact HE0
      have HER := Lib.hid HER
      clear HE0
      obtain ⟨f0, f1, f2, f3⟩ := four_freeK (((Below.refl _ _) : Below V.heap.size V V).block _ (lt_of_block HD.out.rr) |>.trans HD.out.rr)
      obtain ⟨r0, r1, r2, r3⟩ := four_cellsK (((Below.refl _ _) : Below V.heap.size V V).block _ (lt_of_block HD.out.rr) |>.trans HD.out.rr)
      go_wp2_with fail
      all_goals
        change bodyPost _ _ _ Exit.ret _ (setAll V R (rowRes 2 [] 0 (.slice none 0 0)))
        generalize (setAll V R (rowRes 2 [] 0 (.slice none 0 0))) = W9 at HE HER ⊢
        clear r0 r1 r2 r3 f0 f1 f2 f3
        obtain ⟨r0, r1, r2, r3⟩ := four_cellsK HER.out
        refine bodyPost_ret (by simp [results, Tryd.results21, go_sem, r0, r1, r2, r3]; rfl) rfl ?_
        exact HE.out
    · have Hd : Hid (doK l c = (l.eraseIdx k, ⟨1, [], yr, []⟩)) := by
        show _ = _
        unfold doK
        rw [if_neg (by rw [Hkind.out]; decide), if_neg (by rw [Hkind.out]; decide), if_neg (by rw [Hkind.out]; decide), if_neg (by rw [Hkind.out]; decide), if_neg (by rw [hq.out]; decide), if_pos Hkind.out, hyr.out, hkq.out]
      rw [Bool.not_true] at hg
      have hn32 := Hk.out.n
      rw [hn.out] at hn32
      have HPW : Hid (∀ W, Below V.heap.size V W → W.heap[P]? = some (.cells (rowPair (oldK l c.key)).toArray 25 (0, 0))) := fun W hb => (hb.block _ (lt_of_block HD.out.pp)).trans HD.out.pp
      obtain ⟨O, hO⟩ := hide (fun i => (l.take i).eraseIdx k)
      have HO0 : Hid (O 0 = []) := by show _ = _; rw [← hO.out]; rfl
      have HOn : Hid (O n = l.eraseIdx k) := by show _ = _; rw [← hO.out, ← hn.out]; show (l.take l.length).eraseIdx k = _; rw [List.take_length]
      have HOl : Hid (∀ i, i ≤ n → (O i).length ≤ 32) := by
        intro i hi
        rw [← hO.out]
        have h1 := List.length_eraseIdx_le (l.take i) k
        have h2 : (l.take i).length ≤ i := List.length_take_le _ _
        show ((l.take i).eraseIdx k).length ≤ 32
        omega
      have HO1 : Hid (∀ i (hi : i < l.length), O (i + 1) = if i = k then O i else O i ++ [l[i]]) := by
        intro i hi
        rw [← hO.out]
        show (l.take (i + 1)).eraseIdx k = if i = k then (l.take i).eraseIdx k else (l.take i).eraseIdx k ++ [l[i]]
        have hl : (l.take i).length = i := by rw [List.length_take]; omega
        rw [take_snocP hi]
        by_cases h : i = k
        · rw [if_pos h, List.eraseIdx_append_of_length_le (by omega), List.eraseIdx_of_length_le (l := l.take i) (by omega), hl, ← h, Nat.sub_self]
          simp
        · rw [if_neg h]
          by_cases h2 : k < i
          · rw [List.eraseIdx_append_of_lt_length (by omega)]
          · rw [List.eraseIdx_append_of_length_le (by omega), List.eraseIdx_of_length_le (l := l.take i) (by omega), hl, List.eraseIdx_of_length_le (by simp; omega)]
      have Hgrk : Hid (gr = (k : Int)) := by show _ = _; rw [Hgr.out, if_pos rfl]
      clear k0 k1 k2 k3 p1 p2
      have k0 := cell_n HD.out.cc 0 (v := .int .i64 c.kind) rfl
      go_wp2_with fail
      clear k0
      go_loopw [13, 14] (fun s13 s14 wr => ∃ i : Nat, ∃ a c, s14 = .int .i64 i ∧ i ≤ n ∧ s13 = .slice a (O i).length c ∧ Hid (OwnP V.heap.size wr (.slice a (O i).length c) (O i)) ∧ Hid (Below V.heap.size V wr)) (fun _ s14 _ => n - (intOf s14).toNat)
      case atStart => exact ⟨0, none, 0, rfl, Nat.zero_le _, by rw [HO0.out]; rfl, by rw [HO0.out]; exact World.ownsRow_nil _ _ _ _, Below.refl _ _⟩
      case round =>
        obtain ⟨i, a, c9, rfl, hin, rfl, ho, hb⟩ := hrel
        have HLB := Lib.hid (HOl.out i hin)
        have HVr : Hid (V.heap.size ≤ wr.heap.size) := hb.out.size
        by_cases hlt : i < n
        · have hil : i < l.length := by rw [hn.out]; exact hlt
          have hO1 := HO1.out i hil
          obtain ⟨b', off', e1, c0, c1, c2⟩ := Sl.three (HFV.out _ hb.out) hil
          subst e1
          have hii : (i : Int) < (n : Int) := by omega
          by_cases hik : i = k
          · have HO2 : Hid (O (i + 1) = O i) := hO1.trans (if_pos hik)
            have u1 : ((i : Int) != gr) = false := by rw [bne_eq_false_iff_eq, Hgrk.out, hik]
            clear hO1 hik c0 c1 c2
            go_wp2_with fail
            go_roundw
            case rel => exact ⟨i + 1, a, c9, by go_num, by omega, by rw [HO2.out], by rw [HO2.out]; exact ho, hb⟩
            case measure => simp [intOf]; omega
          · have HO2 : Hid (O (i + 1) = O i ++ [l[i]]) := hO1.trans (if_neg hik)
            have u1 : ((i : Int) != gr) = true := by rw [bne_iff_ne, Hgrk.out]; omega
            clear hO1
            obtain ⟨y, hy⟩ := hide l[i]
            rw [hy.out] at c0 c1 c2 HO2
            go_wp2_with (at_builtin; refine wpList_push rfl _ _ 22 rfl V.heap.size 25 _ 3 40 Tryd.underlying22 info_pairK rfl (by decide) _ _ _ rfl ho.out _ rfl rfl (by intro u hu; simp at hu; rcases hu with rfl | rfl | rfl <;> rfl) (by have := HLB.out; unfold maxLen; omega) (by have := HLB.out; omega) HVr.out ?_)
            intro v2 w2 ho2 hg2
            obtain ⟨a2, c2', rfl⟩ := owns_slice ho2
            have Ho2 : Hid (OwnP V.heap.size w2 (.slice a2 (O (i + 1)).length c2') (O (i + 1))) := by
              show w2.ownsRow _ _ _ _ _ _
              rw [HO2.out, List.length_append, List.flatMap_append]
              exact ho2
            have Hb2 : Hid (Below V.heap.size V w2) := hb.out.trans (below_own ho.out hg2 (Nat.le_refl _) HVr.out)
            clear ho2 hg2
            go_wp2_with fail
            go_roundw
            case rel => exact ⟨i + 1, a2, c2', by go_num, by omega, by rw [HO2.out, List.length_append]; rfl, Ho2, Hb2⟩
            case measure => simp [intOf]; omega
        · obtain rfl : n = i := by omega
          rw [HOn.out] at ho ⊢
          have p2 : wr.cell? ⟨P, 2, none⟩ = some (.int .i64 yr) := by rw [← hyr.out]; exact cell_n (HPW.out _ hb.out) 2 rfl
          obtain ⟨m, hm⟩ := hide (l.eraseIdx k).length
          have hbv : (Value.slice a m c9 = .slice ao n cap ∧ l.eraseIdx k = l) ∨ OwnP w.heap.size wr (.slice a m c9) (l.eraseIdx k) := by
            rw [← hm.out]
            exact Or.inr (own_base ho.out HVw.out)
          have Hbv := Lib.hid hbv
          clear hbv
          rw [hm.out]
          obtain ⟨HE0, HER⟩ := HD.out.fin (v := .slice ao n cap) (bv := (.slice a m c9)) (kv := (.slice none 0 0)) (kd := 1) (val := []) (ver := yr) hb.out (HAP.out.trans Hd.out) Hbv.out (World.ownsRow_nil _ _ _ _) (w' := (setAll wr R (rowRes 1 [] yr (.slice none 0 0))).drew) (Or.inr rfl)
          have HE : Hid (post (.returned (.tuple #[(.slice a m c9), vResK 1 [] yr (.slice none 0 0)])) (setAll wr R (rowRes 1 [] yr (.slice none 0 0))).drew) := by show post _ _; rw [← HP0.out]; exact HE0
          have HER := Lib.hid HER
          clear HE0
          obtain ⟨f0, f1, f2, f3⟩ := four_freeK ((hb.out : Below V.heap.size V wr).block _ (lt_of_block HD.out.rr) |>.trans HD.out.rr)
          obtain ⟨r0, r1, r2, r3⟩ := four_cellsK ((hb.out : Below V.heap.size V wr).block _ (lt_of_block HD.out.rr) |>.trans HD.out.rr)
          go_upto_region 39 with fail
          go_region
          all_goals
            try go_wp2_with fail
            change bodyPost _ _ _ Exit.ret _ (setAll wr R (rowRes 1 [] yr (.slice none 0 0))).drew
            generalize (setAll wr R (rowRes 1 [] yr (.slice none 0 0))).drew = W9 at HE HER ⊢
            clear r0 r1 r2 r3 f0 f1 f2 f3
            obtain ⟨r0, r1, r2, r3⟩ := four_cellsK HER.out
            refine bodyPost_ret (by simp [results, Tryd.results21, go_sem, r0, r1, r2, r3]; rfl) rfl ?_
            exact HE.out

set_option maxHeartbeats 4000000 in
set_option maxRecDepth 100000 in
theorem ra_list (c : CmdP) (v : Value) (l : List PairP) (F : Nat → Prop) (w : World) (h : Prs F w v l) (hic : isCommand c.kind c.key c.val c.iff = true) (hip : pairsB l = true) (hkind : c.kind = 6) :
    Calls Tryd.prog 21 #[v, vCmd c.kind c.key c.val c.iff] w (RefPost w l c v) := by
  obtain ⟨post, HP⟩ := hide (RefPost w l c v)
  rw [HP.out]
  obtain ⟨ao, cap, rfl, hcap, hmax⟩ := h.slice
  obtain ⟨C, hC⟩ := hide w.heap.size
  obtain ⟨W, hW⟩ := hide ((w.alloc (.cells (rowCmd c).toArray 37)).alloc (.cells zeroRes.toArray 56))
  obtain ⟨R, hR⟩ := hide (w.heap.size + 1)
  have HbW : Hid (Below w.heap.size w W) := by show Below _ _ _; rw [← hW.out]; exact ((Below.refl _ _).alloc (Nat.le_refl _) _).alloc (by simp) _
  have HCW : Hid (W.heap[C]? = some (.cells (rowCmd c).toArray 37 (0, 0))) := by show _ = _; rw [← hW.out, ← hC.out]; exact (hp_past _ _ (by simp)).trans (hp_at _ _ rfl)
  have HRW : Hid (W.heap[R]? = some (.cells zeroRes.toArray 56 (0, 0))) := by show _ = _; rw [← hW.out, ← hR.out]; exact hp_at _ _ (by simp)
  have HRl : Hid (w.heap.size ≤ R) := by show _ ≤ _; rw [← hR.out]; omega
  have HF : Hid (∀ W', Below W.heap.size W W' → Prs F W' (.slice ao l.length cap) l) := fun W' hb => h.frame (Plain.good _) ((Agree.below HbW.out).trans (Agree.below hb))
  have Hk : Hid (OkPs l) := pairsB_ok hip
  have KI := Lib.hid (ref_isCommand c.kind c.key c.val c.iff W)
  rw [hic] at KI
  have HAP : Hid (applyK l c = doK l c) := by show _ = _; unfold applyK; rw [hic, hip]; rfl
  have Hip := Lib.hid hip
  have Hcp : Hid ((1 ≤ c.kind ∧ c.kind ≤ 6) ∧ c.val.length ≤ 64 ∧ 0 ≤ c.iff) := cmd_parts hic
  obtain ⟨k, hkq⟩ := hide (place l c.key)
  obtain ⟨q, hq⟩ := hide (isK l c.key)
  obtain ⟨n, hn⟩ := hide l.length
  have HP0 := HP
  rw [hn.out] at HP0
  have Hkind := Lib.hid hkind
  have HFn : Hid (∀ W', Below W.heap.size W W' → Prs F W' (.slice ao n cap) l) := by rw [← hn.out]; exact HF
  rw [hn.out]
  clear h hic hip hkind HF hcap hmax
  obtain ⟨k0, k1, k2, k3⟩ := four_cellsK HCW.out
  go_enter Tryd.func21, Tryd.ntmps21
  go_upto_region 1 with fail
  rw [hW.out]
  try rw [hR.out]
  try rw [hC.out]
  go_wp2_with fail
  refine KI.out.mono ?_
  rintro e W3 ⟨rfl, hw3⟩
  have Hb3 : Hid (Below W.heap.size W W3) := by show Below _ _ _; rw [← hw3]; exact (Below.refl _ _).alloc (Nat.le_refl _) _
  have KV := Lib.hid (ref_isPairs _ l W3 (Sl.pairs (HFn.out _ Hb3.out)))
  rw [Hip.out] at KV
  clear hw3 k0 k1 k2 k3
  dsimp only
  go_wp2_with fail
  refine KV.out.mono ?_
  rintro e W4 ⟨rfl, hb4⟩
  have Hb4 : Hid (Below W.heap.size W W4) := Hb3.out.trans (hb4.mono Hb3.out.size)
  clear hb4
  dsimp only
  have HC4 : W4.heap[C]? = some (.cells (rowCmd c).toArray 37 (0, 0)) := (Hb4.out.block _ (lt_of_block HCW.out)).trans HCW.out
  have k1 := cell_n HC4 1 (v := str c.key) rfl
  have KG := Lib.hid (refGet_law c.key _ l F W4 (HFn.out _ Hb4.out) Hk.out)
  clear HC4
  go_upto_region 5 with fail
  go_wp2_with fail
  refine KG.out.mono ?_
  rintro e w1 ⟨rfl, rfl⟩
  dsimp only
  clear k1
  obtain ⟨gr, hgr⟩ := hide (getR l c.key)
  have Hgr : Hid (gr = if q then (k : Int) else -1) := by show _ = _; rw [← hgr.out]; unfold getR; rw [hq.out, hkq.out]
  rw [hgr.out]
  go_upto_region 7 with fail
  obtain ⟨W2, hW2⟩ := hide (W4.alloc (.cells #[.string ⟨#[]⟩, .string ⟨#[]⟩, .int .i64 0] 25))
  obtain ⟨P, hP⟩ := hide W4.heap.size
  have HbW2 : Hid (Below W.heap.size W W2) := by show Below _ _ _; rw [← hW2.out]; exact Hb4.out.alloc Hb4.out.size _
  have HC2 : Hid (W2.heap[C]? = some (.cells (rowCmd c).toArray 37 (0, 0))) := (HbW2.out.block _ (lt_of_block HCW.out)).trans HCW.out
  have HR2 : Hid (W2.heap[R]? = some (.cells zeroRes.toArray 56 (0, 0))) := (HbW2.out.block _ (lt_of_block HRW.out)).trans HRW.out
  have HP2 : Hid (W2.heap[P]? = some (.cells (rowPair zeroP).toArray 25 (0, 0))) := by show _ = _; rw [← hW2.out, ← hP.out]; exact hp_at _ _ rfl
  have HPl : Hid (W.heap.size ≤ P) := by show _ ≤ _; rw [← hP.out]; exact Hb4.out.size
  have HB0 : Hid (Below w.heap.size w W2) := HbW.out.trans (HbW2.out.mono HbW.out.size)
  rw [hW2.out, hP.out]
  go_upto_if 33 with fail
  go_cut [] from 34 to 37 (fun wx => Hid (RAt w wx C R P l c) ∧ Hid (Below W.heap.size W wx))
  case first =>
    cases q
    · have hold : oldK l c.key = zeroP := oldK_no hq.out
      have HD : Hid (RAt w W2 C R P l c) := ⟨HC2.out, HR2.out, by rw [hold]; exact HP2.out, HB0.out, HRl.out⟩
      obtain rfl : gr = -1 := by rw [Hgr.out, if_neg (by decide)]
      clear hold hgr
      go_wp2_with fail
      go_meet
      exact ⟨HD, HbW2⟩
    · obtain ⟨hkl, hkey⟩ := isK_at hq.out
      have hold : oldK l c.key = l[place l c.key] := by unfold oldK; rw [if_pos hq.out, List.getD_eq_getElem?_getD, List.getElem?_eq_getElem hkl]; rfl
      simp only [hkq.out] at hkl hold hkey
      have hkn : k < n := by rw [← hn.out]; exact hkl
      obtain rfl : gr = (k : Int) := by rw [Hgr.out, if_pos rfl]
      obtain ⟨b, off, e1, p0, p1, p2⟩ := Sl.three (HFn.out _ HbW2.out) hkl
      subst e1
      obtain ⟨y, hy⟩ := hide l[k]
      rw [hy.out] at p0 p1 p2 hold
      have t0 : decide (0 ≤ (k : Int)) = true := decide_eq_true (by omega)
      have f0 := free_n HP2.out 0
      have f1 := free_n HP2.out 1
      have f2 := free_n HP2.out 2
      have z0 := cell_n HP2.out 0 (v := .string ⟨#[]⟩) rfl
      have z1 := cell_n HP2.out 1 (v := .string ⟨#[]⟩) rfl
      have z2 := cell_n HP2.out 2 (v := .int .i64 0) rfl
      have hki : (k : Int) < (n : Int) := by omega
      have HD : Hid (RAt w (setAll W2 P (rowPair y)) C R P l c) := by
        have hpc : P ≠ C := fun e => by have := HPl.out; have := lt_of_block HCW.out; omega
        have hpr : P ≠ R := fun e => by have := HPl.out; have := lt_of_block HRW.out; omega
        refine ⟨setAll_other HC2.out hpc _, setAll_other HR2.out hpr _, by rw [hold]; exact setAll_at (xs := rowPair zeroP) HP2.out _ rfl, setAll_below HB0.out (by have h1 := HPl.out; have h2 := HbW.out.size; omega) _, HRl.out⟩
      have HD2 : Hid (Below W.heap.size W (setAll W2 P (rowPair y))) := setAll_below HbW2.out HPl.out _
      clear hold hkey hgr
      go_wp2_with fail
      go_meet
      exact ⟨HD, HD2⟩
  case rest =>
    obtain ⟨V, hV⟩ : ∃ V, V = wc := ⟨_, rfl⟩
    subst hV
    obtain ⟨HD, HbV⟩ := hcut
    have HFV : Hid (∀ W', Below V.heap.size V W' → Prs F W' (.slice ao n cap) l) := fun W' hb => HFn.out _ (HbV.out.trans (hb.mono HbV.out.size))
    have HVw : Hid (w.heap.size ≤ V.heap.size) := HD.out.bel.size
    have k0 := cell_n HD.out.cc 0 (v := .int .i64 c.kind) rfl
    have k1 := cell_n HD.out.cc 1 (v := str c.key) rfl
    have k2 := cell_n HD.out.cc 2 (v := str c.val) rfl
    have k3 := cell_n HD.out.cc 3 (v := .int .i64 c.iff) rfl
    have p1 := cell_n HD.out.pp 1 (v := str (oldK l c.key).val) rfl
    have p2 := cell_n HD.out.pp 2 (v := .int .i64 (oldK l c.key).ver) rfl
    obtain ⟨yv, hyv⟩ := hide (oldK l c.key).val
    obtain ⟨yr, hyr⟩ := hide (oldK l c.key).ver
    rw [hyv.out] at p1
    rw [hyr.out] at p2
    have t1 : (c.kind == 1) = false := by rw [Hkind.out]; rfl
    have t5 : (c.kind == 5) = false := by rw [Hkind.out]; rfl
    have t4 : (c.kind == 4) = false := by rw [Hkind.out]; rfl
    have t6 : (c.kind == 6) = true := by rw [Hkind.out]; rfl
    have Hd : Hid (doK l c = (l, ⟨1, [], 0, keysK l c.key c.iff⟩)) := by
      show doK l c = _
      unfold doK
      rw [if_neg (by rw [Hkind.out]; decide), if_neg (by rw [Hkind.out]; decide), if_neg (by rw [Hkind.out]; decide), if_pos Hkind.out]
    obtain ⟨V1, hV1⟩ := hide (V.alloc (.cells (rowRes 1 [] 0 (.slice none 0 0)).toArray 56))
    obtain ⟨L, hL⟩ := hide V.heap.size
    have HLA : Hid (ListAt V V1 L 0 none 0 []) := by
      show ListAt _ _ _ _ _ _ _
      rw [← hV1.out, ← hL.out]
      exact ⟨(Below.refl _ _).alloc (Nat.le_refl _) _, hp_at _ _ rfl, World.ownsRow_nil _ _ _ _, Nat.le_refl _⟩
    obtain ⟨iff, hiff⟩ := hide c.iff
    have HI0 : Hid (0 ≤ iff) := by show _ ≤ _; rw [← hiff.out]; exact Hcp.out.2.2
    obtain ⟨ck, hck⟩ := hide c.key
    rw [hck.out, hiff.out] at Hd
    have HCW2 : Hid (∀ W, Below V.heap.size V W → W.heap[C]? = some (.cells #[.int .i64 c.kind, str ck, str c.val, .int .i64 iff] 37 (0, 0))) := fun W hb => by rw [hb.block _ (lt_of_block HD.out.cc), HD.out.cc, ← hiff.out, ← hck.out]
    obtain ⟨KS, hKS⟩ := hide (keysR l ck iff)
    have HK0 : Hid (KS 0 = []) := by show _ = _; rw [← hKS.out]; exact keysR_zero _ _ _
    have HKn : Hid (KS n = keysK l ck iff) := by show _ = _; rw [← hKS.out, ← hn.out]; exact keysR_end Hk.out _ _
    have HK1 : Hid (∀ i (hi : i < l.length), KS (i + 1) = if pre ck l[i].key && (iff == 0 || decide (((KS i).length : Int) < iff)) then KS i ++ [l[i].key] else KS i) := by
      rw [← hKS.out]
      exact fun i hi => keysR_step HI0.out hi
    have hn32 := Hk.out.n
    rw [hn.out] at hn32
    have HKl : Hid (∀ i, i ≤ n → (KS i).length ≤ i) := by
      intro i
      induction i with
      | zero => intro _; rw [HK0.out]; exact Nat.le_refl _
      | succ i ih =>
        intro hi
        rw [HK1.out i (by rw [hn.out]; exact hi)]
        have := ih (by omega)
        split
        · rw [List.length_append]; simp; omega
        · omega
    clear k1 k2 k3 p1 p2
    go_wp2_with fail
    rw [hV1.out, hL.out]
    clear k0
    go_loopw [11] (fun s11 wr => ∃ i : Nat, ∃ a cc, s11 = .int .i64 i ∧ i ≤ n ∧ Hid (ListAt V wr L (KS i).length a cc (KS i))) (fun s11 _ => n - (intOf s11).toNat)
    case atStart => exact ⟨0, none, 0, rfl, Nat.zero_le _, by rw [HK0.out]; exact HLA⟩
    case round =>
      clear HLA hV1
      obtain ⟨i, a, cc, rfl, hin, hla⟩ := hrel
      by_cases hlt : i < n
      · have hil : i < l.length := by rw [hn.out]; exact hlt
        have hK1 := HK1.out i hil
        have hKl := HKl.out i hin
        obtain ⟨ks, hks⟩ := hide (KS i)
        rw [hks.out] at hla hK1 hKl
        obtain ⟨m, hm⟩ := hide ks.length
        rw [hm.out] at hla hK1 hKl
        obtain ⟨b', off', e1, c0, c1, c2⟩ := Sl.three (HFV.out _ hla.out.bel) hil
        subst e1
        have HLk : Hid (l[i].key.length ≤ 9223372036854775807) := by show _ ≤ _; have := (Hk.out.key _ (List.getElem_mem hil)).2; omega
        have HPF : Hid (∀ W', Below V.heap.size V W' → W'.cell? ⟨b', off' + i * 3, none⟩ = some (str l[i].key)) := fun W' hb' => by
          obtain ⟨b2, off2, e1, c0', _, _⟩ := Sl.three (HFV.out _ hb') hil
          injection e1 with e1
          injection e1 with e1 e2
          subst e1 e2
          exact c0'
        obtain ⟨y, hy⟩ := hide l[i].key
        rw [hy.out] at c0 hK1 HLk
        simp only [hy.out] at HPF
        have HC1 := HCW2.out _ hla.out.bel
        have d1 := cell_n HC1 1 (v := str ck) rfl
        have d3 := cell_n HC1 3 (v := .int .i64 iff) rfl
        have r3 := cell_n hla.out.res 3 (v := .slice a m cc) rfl
        clear HC1 c1 c2
        have hii : (i : Int) < (n : Int) := by omega
        have HK1' := Lib.hid hK1
        have Hkl : Hid (m ≤ 32) := by show _ ≤ _; omega
        clear hK1 hKl
        obtain ⟨e, he⟩ : ∃ e, Hid (e = (pre ck y && (iff == 0 || decide ((m : Int) < iff)))) := ⟨_, rfl⟩
        rw [← he.out] at HK1'
        go_upto_region 26 with fail
        go_cut [137] from 105 to 137 (fun s wx => s = .bool e ∧ Hid (Below wr.heap.size wr wx))
        case first =>
          have he2 := he.out
          unfold pre at he2
          by_cases h : ck.length ≤ y.length
          · have t1 : decide (ck.length ≤ y.length) = true := decide_eq_true h
            have h2 : (ck.length : Int) ≤ (y.length : Int) := by omega
            rw [t1, Bool.true_and] at he2
            obtain ⟨b, hb⟩ : ∃ b, Hid (b = (y.take ck.length == ck)) := ⟨_, rfl⟩
            have tb : (y.take ck.length == ck) = b := hb.out.symm
            rw [tb] at he2
            clear hb
            cases b
            · have he3 : e = false := he2
              clear he2 he
              subst he3
              go_quiet (fail)
              go_wp2_with fail
              go_meet
              exact ⟨rfl, below_drewN (Below.refl _ _) _⟩
            · rw [Bool.true_and] at he2
              by_cases h0 : iff = 0
              · have t0 : (iff == 0) = true := beq_iff_eq.2 h0
                have he3 : e = true := by rw [he2, t0]; rfl
                clear he2 he h0
                subst he3
                go_quiet (fail)
                go_wp2_with fail
                go_meet
                exact ⟨rfl, below_drewN (Below.refl _ _) _⟩
              · have t0 : (iff == 0) = false := beq_eq_false_iff_ne.2 h0
                obtain ⟨b2, hb2⟩ : ∃ b, Hid (b = decide ((m : Int) < iff)) := ⟨_, rfl⟩
                have tm : decide ((m : Int) < iff) = b2 := hb2.out.symm
                have he3 : e = b2 := by rw [he2, t0, hb2.out]; rfl
                clear he2 he h0 hb2
                subst he3
                cases e
                all_goals
                  go_quiet (fail)
                  go_wp2_with fail
                  go_meet
                  exact ⟨rfl, below_drewN (Below.refl _ _) _⟩
          · have t1 : decide (ck.length ≤ y.length) = false := decide_eq_false h
            have he3 : e = false := by rw [he2, t1]; rfl
            clear he2 he h
            subst he3
            go_quiet (fail)
            go_wp2_with fail
            go_meet
            exact ⟨rfl, below_drewN (Below.refl _ _) _⟩
        case rest =>
          clear c0 d1 d3 r3
          obtain ⟨W', hW'⟩ : ∃ W, W = wc := ⟨_, rfl⟩
          subst hW'
          obtain ⟨rfl, hbW⟩ := hcut
          have HLA := Lib.hid (hla.out.below hbW.out)
          clear hla hbW
          cases e
          · rw [if_neg (by decide)] at HK1'
            go_wp2_with fail
            go_roundw
            case rel => exact ⟨i + 1, a, cc, by go_num, by omega, by rw [HK1'.out, hm.out]; exact HLA⟩
            case measure => simp [intOf]; omega
          · rw [if_pos rfl] at HK1'
            have HK2 : Hid (KS (i + 1) = ks ++ [y]) := HK1'
            clear HK1'
            have c0 := HPF.out _ HLA.out.bel
            have r3 := cell_n HLA.out.res 3 (v := .slice a m cc) rfl
            have g3 := free_n HLA.out.res 3
            have HLl := lt_of_block HLA.out.res
            have s3 : (W'.alloc (.cells #[str y] 9)).cell? ⟨L, 3, none⟩ = some (.slice a m cc) := (World.cell?_of_block (hp_past W' _ (by show L ≠ W'.heap.size; omega))).trans r3
            have HoA : Hid ((W'.drew.alloc (.cells #[str y] 9)).ownsRow V.heap.size 9 1 (.slice a m cc) m (ks.flatMap rowText)) := HLA.out.own.drew.alloc _
            have HsA : Hid (Src Tryd.prog 1 54 (.slice (some ⟨W'.drew.heap.size, 0, none⟩) 1 1) 1 [str y] (W'.drew.alloc (.cells #[str y] 9))) := src_new (w := W'.drew) Tryd.underlying54 _ 1 rfl (rowText_one y)
            have HVs : Hid (V.heap.size ≤ (W'.drew.alloc (.cells #[str y] 9)).heap.size) := by show _ ≤ _; have := HLA.out.bel.size; simp; omega
            clear HLl
            go_upto_region 27 with fail
            go_region_law (refine step_append_at (by rfl) _ _ 54 54 (by rfl) V.heap.size 9 _ 1 16 Tryd.underlying54 info_text rfl _ _ _ (by rfl) HoA.out _ 1 _ (by rfl) HsA.out (by have := Hkl.out; unfold maxLen; omega) (by have := Hkl.out; omega) HVs.out ?_; intro v9 w9 ho9 hg9 hb9; obtain ⟨a9, k9, rfl⟩ := owns_slice ho9; have HL9 := Lib.hid (HLA.out.push hg9 ho9); have d2 := cell_n HL9.out.1 3 (v := .slice a m cc) rfl; have g9 := free_n HL9.out.1 3; clear ho9 hg9 hb9)
            all_goals
              have HF := Lib.hid HL9.out.2
              clear d2 g9 s3 g3 r3 c0
              go_wp2_with fail
              go_roundw
              case rel => exact ⟨i + 1, a9, k9, by go_num, by omega, by rw [HK2.out, List.length_append, hm.out]; exact HF.out⟩
              case measure => simp [intOf]; omega
      · obtain rfl : n = i := by omega
        rw [HKn.out] at hla
        obtain ⟨ks, hks⟩ := hide (keysK l ck iff)
        rw [hks.out] at hla Hd
        have HKv : Hid (wr.ownsRow w.heap.size 9 1 (.slice a ks.length cc) ks.length (ks.flatMap rowText)) := own_base hla.out.own HVw.out
        obtain ⟨m, hm⟩ := hide ks.length
        rw [hm.out] at hla HKv
        have HKv2 : Hid (wr.ownsRow w.heap.size 9 1 (.slice a m cc) ks.length (ks.flatMap rowText)) := by rw [hm.out]; exact HKv
        obtain ⟨l0, l1, l2, l3⟩ := four_cellsK hla.out.res
        obtain ⟨HE0, HER⟩ := HD.out.fin (v := .slice ao n cap) (bv := (.slice ao n cap)) (kv := (.slice a m cc)) (kd := 1) (val := []) (ver := 0) hla.out.bel (HAP.out.trans Hd.out) (Or.inl ⟨rfl, rfl⟩) HKv2.out (w' := (setAll wr R (rowRes 1 [] 0 (.slice a m cc))).drew) (Or.inr rfl)
        have HE : Hid (post (.returned (.tuple #[(.slice ao n cap), vResK 1 [] 0 (.slice a m cc)])) (setAll wr R (rowRes 1 [] 0 (.slice a m cc))).drew) := by show post _ _; rw [← HP0.out]; exact HE0
        have HER := Lib.hid HER
        clear HE0
        obtain ⟨f0, f1, f2, f3⟩ := four_freeK ((hla.out.bel : Below V.heap.size V wr).block _ (lt_of_block HD.out.rr) |>.trans HD.out.rr)
        obtain ⟨r0, r1, r2, r3⟩ := four_cellsK ((hla.out.bel : Below V.heap.size V wr).block _ (lt_of_block HD.out.rr) |>.trans HD.out.rr)
        go_upto_region 28 with fail
        go_region
        all_goals
          try go_wp2_with fail
          change bodyPost _ _ _ Exit.ret _ (setAll wr R (rowRes 1 [] 0 (.slice a m cc))).drew
          generalize (setAll wr R (rowRes 1 [] 0 (.slice a m cc))).drew = W9 at HE HER ⊢
          clear r0 r1 r2 r3 f0 f1 f2 f3
          obtain ⟨r0, r1, r2, r3⟩ := four_cellsK HER.out
          refine bodyPost_ret (by simp [results, Tryd.results21, go_sem, r0, r1, r2, r3]; rfl) rfl ?_
          exact HE.out

set_option maxHeartbeats 4000000 in
set_option maxRecDepth 100000 in
theorem ra_bad (c : CmdP) (v : Value) (l : List PairP) (F : Nat → Prop) (w : World) (h : Prs F w v l) (hbad : (isCommand c.kind c.key c.val c.iff && pairsB l) = false) :
    Calls Tryd.prog 21 #[v, vCmd c.kind c.key c.val c.iff] w (RefPost w l c v) := by
  obtain ⟨post, HP⟩ := hide (RefPost w l c v)
  rw [HP.out]
  obtain ⟨ao, cap, rfl, hcap, hmax⟩ := h.slice
  obtain ⟨C, hC⟩ := hide w.heap.size
  obtain ⟨W, hW⟩ := hide ((w.alloc (.cells (rowCmd c).toArray 37)).alloc (.cells zeroRes.toArray 56))
  obtain ⟨R, hR⟩ := hide (w.heap.size + 1)
  have HbW : Hid (Below w.heap.size w W) := by show Below _ _ _; rw [← hW.out]; exact ((Below.refl _ _).alloc (Nat.le_refl _) _).alloc (by simp) _
  have HCW : Hid (W.heap[C]? = some (.cells (rowCmd c).toArray 37 (0, 0))) := by show _ = _; rw [← hW.out, ← hC.out]; exact (hp_past _ _ (by simp)).trans (hp_at _ _ rfl)
  have HRW : Hid (W.heap[R]? = some (.cells zeroRes.toArray 56 (0, 0))) := by show _ = _; rw [← hW.out, ← hR.out]; exact hp_at _ _ (by simp)
  have HRl : Hid (w.heap.size ≤ R) := by show _ ≤ _; rw [← hR.out]; omega
  have HF : Hid (∀ W', Below W.heap.size W W' → Prs F W' (.slice ao l.length cap) l) := fun W' hb => h.frame (Plain.good _) ((Agree.below HbW.out).trans (Agree.below hb))
  have KI := Lib.hid (ref_isCommand c.kind c.key c.val c.iff W)
  obtain ⟨ic, hic⟩ := hide (isCommand c.kind c.key c.val c.iff)
  obtain ⟨ip, hip⟩ := hide (pairsB l)
  rw [hic.out] at KI
  have HAP : Hid (applyK l c = (l, ⟨5, [], 0, []⟩)) := by show _ = _; unfold applyK; rw [hbad]; rfl
  have Hbad : Hid ((ic && ip) = false) := by show _ = _; rw [← hic.out, ← hip.out]; exact hbad
  obtain ⟨n, hn⟩ := hide l.length
  have HFn : Hid (∀ W', Below W.heap.size W W' → Prs F W' (.slice ao n cap) l) := by rw [← hn.out]; exact HF
  rw [hn.out]
  clear h hbad HF hcap hmax
  obtain ⟨k0, k1, k2, k3⟩ := four_cellsK HCW.out
  go_enter Tryd.func21, Tryd.ntmps21
  go_upto_region 1 with fail
  rw [hW.out]
  try rw [hR.out]
  try rw [hC.out]
  go_wp2_with fail
  refine KI.out.mono ?_
  rintro e W3 ⟨rfl, hw3⟩
  have Hb3 : Hid (Below W.heap.size W W3) := by show Below _ _ _; rw [← hw3]; exact (Below.refl _ _).alloc (Nat.le_refl _) _
  have KV := Lib.hid (ref_isPairs _ l W3 (Sl.pairs (HFn.out _ Hb3.out)))
  rw [hip.out] at KV
  clear hw3 k0 k1 k2 k3
  dsimp only
  go_wp2_with fail
  refine KV.out.mono ?_
  rintro e V ⟨rfl, hb4⟩
  have Hb4 : Hid (Below W.heap.size W V) := Hb3.out.trans (hb4.mono Hb3.out.size)
  clear hb4
  dsimp only
  have HRV : Hid (V.heap[R]? = some (.cells zeroRes.toArray 56 (0, 0))) := (Hb4.out.block _ (lt_of_block HRW.out)).trans HRW.out
  have HbV : Hid (Below w.heap.size w V) := HbW.out.trans (Hb4.out.mono HbW.out.size)
  have HER : Hid ((setAll V R (rowRes 5 [] 0 (.slice none 0 0))).heap[R]? = some (.cells (rowRes 5 [] 0 (.slice none 0 0)).toArray 56 (0, 0))) := setAll_at (xs := zeroRes) HRV.out _ rfl
  have HE : Hid (post (.returned (.tuple #[.slice ao n cap, vResK 5 [] 0 (.slice none 0 0)])) (setAll V R (rowRes 5 [] 0 (.slice none 0 0)))) := by
    show post _ _
    rw [← HP.out]
    unfold RefPost
    rw [HAP.out, hn.out]
    exact ⟨_, _, rfl, Or.inl ⟨rfl, rfl⟩, World.ownsRow_nil _ _ _ _, setAll_below HbV.out HRl.out _⟩
  obtain ⟨f0, f1, f2, f3⟩ := four_freeK HRV.out
  obtain ⟨r0, r1, r2, r3⟩ := four_cellsK HRV.out
  have hcase : ic = false ∨ (ic = true ∧ ip = false) := by
    have := Hbad.out
    cases ic
    · exact Or.inl rfl
    · exact Or.inr ⟨rfl, this⟩
  clear Hbad
  rcases hcase with rfl | ⟨rfl, rfl⟩
  all_goals
    go_wp2_with fail
    change bodyPost _ _ _ Exit.ret _ (setAll V R (rowRes 5 [] 0 (.slice none 0 0)))
    generalize setAll V R (rowRes 5 [] 0 (.slice none 0 0)) = W9 at HE HER ⊢
    clear r0 r1 r2 r3 f0 f1 f2 f3
    obtain ⟨r0, r1, r2, r3⟩ := four_cellsK HER.out
    refine bodyPost_ret (by simp [results, Tryd.results21, go_sem, r0, r1, r2, r3]; rfl) rfl ?_
    exact HE.out

theorem refApply_law (c : CmdP) (v : Value) (l : List PairP) (F : Nat → Prop) (w : World) (h : Prs F w v l) :
    Calls Tryd.prog 21 #[v, vCmd c.kind c.key c.val c.iff] w (RefPost w l c v) := by
  cases hb : isCommand c.kind c.key c.val c.iff && pairsB l
  · exact ra_bad c v l F w h hb
  · rw [Bool.and_eq_true] at hb
    obtain ⟨hc, hp⟩ := hb
    obtain ⟨⟨h1, h2⟩, _, _⟩ := cmd_parts hc
    have hk : c.kind = 1 ∨ c.kind = 2 ∨ c.kind = 3 ∨ c.kind = 4 ∨ c.kind = 5 ∨ c.kind = 6 := by omega
    rcases hk with hk | hk | hk | hk | hk | hk
    · exact ra_put c v l F w h hc hp hk
    · exact ra_get c v l F w h hc hp hk
    · exact ra_delete c v l F w h hc hp hk
    · exact ra_swap c v l F w h hc hp hk
    · exact ra_append c v l F w h hc hp hk
    · exact ra_list c v l F w h hc hp hk
end Go.Proofs.YtnmlkoidmacinaaDoor
