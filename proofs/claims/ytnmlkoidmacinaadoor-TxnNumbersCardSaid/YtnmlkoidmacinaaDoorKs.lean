/-
  The reference's map: what a command does.
-/
import Derived.Test.YtnmlkoidmacinaaDoorKr
import Derived.Test.YtnmlkoidmacinaaDoorKq
namespace Go.Proofs.YtnmlkoidmacinaaDoor
open Go.RowKit Wm Mm Dg Kv
set_option linter.unusedVariables false
set_option linter.unusedSimpArgs false

theorem refPut_law (key val : List UInt8) (v : Value) (l : List PairP) (F : Nat → Prop) (w : World) (h : Prs F w v l) (ho : OkPs l) :
    Calls Tryd.prog 45 #[v, str key, str val] w fun e w' => ∃ bv, e = .returned (.tuple #[bv, vResK (putK l key val).2.kind [] (putK l key val).2.ver (.slice none 0 0)]) ∧ ((bv = v ∧ (putK l key val).1 = l) ∨ OwnP w.heap.size w' bv (putK l key val).1) ∧ Below w.heap.size w w' := by
  unfold putK
  cases hf : fullK l key val
  · rw [if_neg (by decide)]
    cases hq : isK l key
    · exact (refPut_new key val v l F w h ho hf hq).mono fun _ _ ⟨bv, h1, h2, h3⟩ => ⟨bv, h1, Or.inr h2, h3⟩
    · exact (refPut_old key val v l F w h ho hf hq).mono fun _ _ ⟨bv, h1, h2, h3⟩ => ⟨bv, h1, Or.inr h2, h3⟩
  · rw [if_pos rfl]
    exact (refPut_full key val v l F w h ho hf).mono fun _ _ ⟨h1, h3⟩ => ⟨v, h1, Or.inl ⟨rfl, rfl⟩, h3⟩

/-- what ref.Apply leaves -/
def RefPost (w : World) (l : List PairP) (c : CmdP) (v : Value) (e : Ending) (w' : World) : Prop :=
  ∃ bv kv, e = .returned (.tuple #[bv, vResK (applyK l c).2.kind (applyK l c).2.val (applyK l c).2.ver kv]) ∧ ((bv = v ∧ (applyK l c).1 = l) ∨ OwnP w.heap.size w' bv (applyK l c).1) ∧ w'.ownsRow w.heap.size 9 1 kv (applyK l c).2.keys.length ((applyK l c).2.keys.flatMap rowText) ∧ Below w.heap.size w w'
/-- where things stand once the key's pair is known -/
structure RAt (w W : World) (C R P : Nat) (l : List PairP) (c : CmdP) : Prop where
  cc : W.heap[C]? = some (.cells (rowCmd c).toArray 37 (0, 0))
  rr : W.heap[R]? = some (.cells zeroRes.toArray 56 (0, 0))
  pp : W.heap[P]? = some (.cells (rowPair (oldK l c.key)).toArray 25 (0, 0))
  bel : Below w.heap.size w W
  hr : w.heap.size ≤ R
theorem RAt.fin {w V V2 : World} {C R P : Nat} {l l' : List PairP} {c : CmdP} (h : RAt w V C R P l c) {v bv kv : Value} {kd ver : Int} {val : List UInt8} {ks : List (List UInt8)} (hb : Below V.heap.size V V2)
    (hap : applyK l c = (l', ⟨kd, val, ver, ks⟩)) (hbv : (bv = v ∧ l' = l) ∨ OwnP w.heap.size V2 bv l') (hkv : V2.ownsRow w.heap.size 9 1 kv ks.length (ks.flatMap rowText)) {w' : World}
    (hw : w' = setAll V2 R (rowRes kd val ver kv) ∨ w' = (setAll V2 R (rowRes kd val ver kv)).drew) :
    RefPost w l c v (.returned (.tuple #[bv, vResK kd val ver kv])) w' ∧ w'.heap[R]? = some (.cells (rowRes kd val ver kv).toArray 56 (0, 0)) := by
  have hR2 : V2.heap[R]? = some (.cells zeroRes.toArray 56 (0, 0)) := (hb.block _ (lt_of_block h.rr)).trans h.rr
  have hcR := setFrom_chg R (rowRes kd val ver kv) V2 0
  have hat := setAll_at (xs := zeroRes) hR2 (rowRes kd val ver kv) rfl
  have hbel : Below w.heap.size w (setAll V2 R (rowRes kd val ver kv)) := setAll_below (h.bel.trans (hb.mono h.bel.size)) h.hr _
  have hk2 : (setAll V2 R (rowRes kd val ver kv)).ownsRow w.heap.size 9 1 kv ks.length (ks.flatMap rowText) := own_chg hkv hcR (fun g h1 h2 => by
    have e' : g = R := h2
    exact own_blk_ne hkv hR2 (by decide) (by rw [← e']; exact h1))
  have hb2 : (bv = v ∧ l' = l) ∨ OwnP w.heap.size (setAll V2 R (rowRes kd val ver kv)) bv l' := by
    rcases hbv with hbv | hbv
    · exact Or.inl hbv
    · refine Or.inr (own_chg hbv hcR (fun g h1 h2 => ?_))
      have e' : g = R := h2
      exact own_blk_ne hbv hR2 (by decide) (by rw [← e']; exact h1)
  unfold RefPost
  rw [hap]
  rcases hw with rfl | rfl
  · exact ⟨⟨bv, kv, rfl, hb2, hk2, hbel⟩, hat⟩
  · refine ⟨⟨bv, kv, rfl, ?_, hk2.drew, hbel.drew⟩, hat⟩
    rcases hb2 with hb2 | hb2
    · exact Or.inl hb2
    · exact Or.inr (World.ownsRow.drew hb2)

set_option maxHeartbeats 4000000 in
set_option maxRecDepth 100000 in
theorem ra_put (c : CmdP) (v : Value) (l : List PairP) (F : Nat → Prop) (w : World) (h : Prs F w v l) (hic : isCommand c.kind c.key c.val c.iff = true) (hip : pairsB l = true) (hkind : c.kind = 1) :
    Calls Tryd.prog 21 #[v, vCmd c.kind c.key c.val c.iff] w (RefPost w l c v) := by
  obtain ⟨post, HP⟩ := hide (RefPost w l c v)
  rw [HP.out]
  obtain ⟨ao, cap, rfl, hcap, hmax⟩ := h.slice
  obtain ⟨C, hC⟩ := hide w.heap.size
  obtain ⟨W, hW⟩ := hide ((w.alloc (.cells (rowCmd c).toArray 37)).alloc (.cells zeroRes.toArray 56))
  obtain ⟨R, hR⟩ := hide (w.heap.size + 1)
  have HbW : Hid (Below w.heap.size w W) := by show Below _ _ _; rw [← hW.out]; exact ((Below.refl _ _).alloc (Nat.le_refl _) _).alloc (by simp) _
  have HCW : Hid (W.heap[C]? = some (.cells (rowCmd c).toArray 37 (0, 0))) := by show _ = _; rw [← hW.out, ← hC.out]; exact (hp_past _ _ (by simp)).trans (hp_at _ _ rfl)
  have HRW : Hid (W.heap[R]? = some (.cells zeroRes.toArray 56 (0, 0))) := by show _ = _; rw [← hW.out, ← hR.out]; exact hp_at _ _ (by simp)
  have HRl : Hid (w.heap.size ≤ R) := by show _ ≤ _; rw [← hR.out]; omega
  have HF : Hid (∀ W', Below W.heap.size W W' → Prs F W' (.slice ao l.length cap) l) := fun W' hb => h.frame (Plain.good _) ((Agree.below HbW.out).trans (Agree.below hb))
  have Hk : Hid (OkPs l) := pairsB_ok hip
  have KI := Lib.hid (ref_isCommand c.kind c.key c.val c.iff W)
  rw [hic] at KI
  have HAP : Hid (applyK l c = doK l c) := by show _ = _; unfold applyK; rw [hic, hip]; rfl
  have Hip := Lib.hid hip
  have Hcp : Hid ((1 ≤ c.kind ∧ c.kind ≤ 6) ∧ c.val.length ≤ 64 ∧ 0 ≤ c.iff) := cmd_parts hic
  obtain ⟨k, hkq⟩ := hide (place l c.key)
  obtain ⟨q, hq⟩ := hide (isK l c.key)
  obtain ⟨n, hn⟩ := hide l.length
  have HP0 := HP
  rw [hn.out] at HP0
  have Hkind := Lib.hid hkind
  have HFn : Hid (∀ W', Below W.heap.size W W' → Prs F W' (.slice ao n cap) l) := by rw [← hn.out]; exact HF
  rw [hn.out]
  clear h hic hip hkind HF hcap hmax
  obtain ⟨k0, k1, k2, k3⟩ := four_cellsK HCW.out
  go_enter Tryd.func21, Tryd.ntmps21
  go_upto_region 1 with fail
  rw [hW.out]
  try rw [hR.out]
  try rw [hC.out]
  go_wp2_with fail
  refine KI.out.mono ?_
  rintro e W3 ⟨rfl, hw3⟩
  have Hb3 : Hid (Below W.heap.size W W3) := by show Below _ _ _; rw [← hw3]; exact (Below.refl _ _).alloc (Nat.le_refl _) _
  have KV := Lib.hid (ref_isPairs _ l W3 (Sl.pairs (HFn.out _ Hb3.out)))
  rw [Hip.out] at KV
  clear hw3 k0 k1 k2 k3
  dsimp only
  go_wp2_with fail
  refine KV.out.mono ?_
  rintro e W4 ⟨rfl, hb4⟩
  have Hb4 : Hid (Below W.heap.size W W4) := Hb3.out.trans (hb4.mono Hb3.out.size)
  clear hb4
  dsimp only
  have HC4 : W4.heap[C]? = some (.cells (rowCmd c).toArray 37 (0, 0)) := (Hb4.out.block _ (lt_of_block HCW.out)).trans HCW.out
  have k1 := cell_n HC4 1 (v := str c.key) rfl
  have KG := Lib.hid (refGet_law c.key _ l F W4 (HFn.out _ Hb4.out) Hk.out)
  clear HC4
  go_upto_region 5 with fail
  go_wp2_with fail
  refine KG.out.mono ?_
  rintro e w1 ⟨rfl, rfl⟩
  dsimp only
  clear k1
  obtain ⟨gr, hgr⟩ := hide (getR l c.key)
  have Hgr : Hid (gr = if q then (k : Int) else -1) := by show _ = _; rw [← hgr.out]; unfold getR; rw [hq.out, hkq.out]
  rw [hgr.out]
  go_upto_region 7 with fail
  obtain ⟨W2, hW2⟩ := hide (W4.alloc (.cells #[.string ⟨#[]⟩, .string ⟨#[]⟩, .int .i64 0] 25))
  obtain ⟨P, hP⟩ := hide W4.heap.size
  have HbW2 : Hid (Below W.heap.size W W2) := by show Below _ _ _; rw [← hW2.out]; exact Hb4.out.alloc Hb4.out.size _
  have HC2 : Hid (W2.heap[C]? = some (.cells (rowCmd c).toArray 37 (0, 0))) := (HbW2.out.block _ (lt_of_block HCW.out)).trans HCW.out
  have HR2 : Hid (W2.heap[R]? = some (.cells zeroRes.toArray 56 (0, 0))) := (HbW2.out.block _ (lt_of_block HRW.out)).trans HRW.out
  have HP2 : Hid (W2.heap[P]? = some (.cells (rowPair zeroP).toArray 25 (0, 0))) := by show _ = _; rw [← hW2.out, ← hP.out]; exact hp_at _ _ rfl
  have HPl : Hid (W.heap.size ≤ P) := by show _ ≤ _; rw [← hP.out]; exact Hb4.out.size
  have HB0 : Hid (Below w.heap.size w W2) := HbW.out.trans (HbW2.out.mono HbW.out.size)
  rw [hW2.out, hP.out]
  go_upto_if 33 with fail
  go_cut [] from 34 to 37 (fun wx => Hid (RAt w wx C R P l c) ∧ Hid (Below W.heap.size W wx))
  case first =>
    cases q
    · have hold : oldK l c.key = zeroP := oldK_no hq.out
      have HD : Hid (RAt w W2 C R P l c) := ⟨HC2.out, HR2.out, by rw [hold]; exact HP2.out, HB0.out, HRl.out⟩
      obtain rfl : gr = -1 := by rw [Hgr.out, if_neg (by decide)]
      clear hold hgr
      go_wp2_with fail
      go_meet
      exact ⟨HD, HbW2⟩
    · obtain ⟨hkl, hkey⟩ := isK_at hq.out
      have hold : oldK l c.key = l[place l c.key] := by unfold oldK; rw [if_pos hq.out, List.getD_eq_getElem?_getD, List.getElem?_eq_getElem hkl]; rfl
      simp only [hkq.out] at hkl hold hkey
      have hkn : k < n := by rw [← hn.out]; exact hkl
      obtain rfl : gr = (k : Int) := by rw [Hgr.out, if_pos rfl]
      obtain ⟨b, off, e1, p0, p1, p2⟩ := Sl.three (HFn.out _ HbW2.out) hkl
      subst e1
      obtain ⟨y, hy⟩ := hide l[k]
      rw [hy.out] at p0 p1 p2 hold
      have t0 : decide (0 ≤ (k : Int)) = true := decide_eq_true (by omega)
      have f0 := free_n HP2.out 0
      have f1 := free_n HP2.out 1
      have f2 := free_n HP2.out 2
      have z0 := cell_n HP2.out 0 (v := .string ⟨#[]⟩) rfl
      have z1 := cell_n HP2.out 1 (v := .string ⟨#[]⟩) rfl
      have z2 := cell_n HP2.out 2 (v := .int .i64 0) rfl
      have hki : (k : Int) < (n : Int) := by omega
      have HD : Hid (RAt w (setAll W2 P (rowPair y)) C R P l c) := by
        have hpc : P ≠ C := fun e => by have := HPl.out; have := lt_of_block HCW.out; omega
        have hpr : P ≠ R := fun e => by have := HPl.out; have := lt_of_block HRW.out; omega
        refine ⟨setAll_other HC2.out hpc _, setAll_other HR2.out hpr _, by rw [hold]; exact setAll_at (xs := rowPair zeroP) HP2.out _ rfl, setAll_below HB0.out (by have h1 := HPl.out; have h2 := HbW.out.size; omega) _, HRl.out⟩
      have HD2 : Hid (Below W.heap.size W (setAll W2 P (rowPair y))) := setAll_below HbW2.out HPl.out _
      clear hold hkey hgr
      go_wp2_with fail
      go_meet
      exact ⟨HD, HD2⟩
  case rest =>
    obtain ⟨V, hV⟩ : ∃ V, V = wc := ⟨_, rfl⟩
    subst hV
    obtain ⟨HD, HbV⟩ := hcut
    have HFV : Hid (∀ W', Below V.heap.size V W' → Prs F W' (.slice ao n cap) l) := fun W' hb => HFn.out _ (HbV.out.trans (hb.mono HbV.out.size))
    have HVw : Hid (w.heap.size ≤ V.heap.size) := HD.out.bel.size
    have k0 := cell_n HD.out.cc 0 (v := .int .i64 c.kind) rfl
    have k1 := cell_n HD.out.cc 1 (v := str c.key) rfl
    have k2 := cell_n HD.out.cc 2 (v := str c.val) rfl
    have k3 := cell_n HD.out.cc 3 (v := .int .i64 c.iff) rfl
    have p1 := cell_n HD.out.pp 1 (v := str (oldK l c.key).val) rfl
    have p2 := cell_n HD.out.pp 2 (v := .int .i64 (oldK l c.key).ver) rfl
    obtain ⟨yv, hyv⟩ := hide (oldK l c.key).val
    obtain ⟨yr, hyr⟩ := hide (oldK l c.key).ver
    rw [hyv.out] at p1
    rw [hyr.out] at p2
    have t1 : (c.kind == 1) = true := by rw [Hkind.out]; rfl
    have hd : Hid (doK l c = putK l c.key c.val) := by show _ = _; unfold doK; rw [if_pos Hkind.out]
    have KP := Lib.hid (refPut_law c.key c.val _ l F V (HFV.out _ (Below.refl _ _)) Hk.out)
    go_wp2_with fail
    refine KP.out.mono ?_
    rintro e V2 ⟨bv, rfl, hbv, hb2⟩
    have Hap : Hid (applyK l c = putK l c.key c.val) := HAP.out.trans hd.out
    obtain ⟨xs, hxs⟩ := hide (putK l c.key c.val)
    obtain ⟨ev, ek⟩ := putK_val l c.key c.val
    rw [hxs.out] at hbv Hap ev ek
    rw [hxs.out]
    obtain ⟨l2, kd, vl, vr, ks⟩ := xs
    dsimp only at hbv Hap ev ek ⊢
    subst ev ek
    have Hb2 := Lib.hid hb2
    have Hbv : Hid ((bv = .slice ao n cap ∧ l2 = l) ∨ OwnP w.heap.size V2 bv l2) := by
      rcases hbv with h1 | h1
      · exact Or.inl h1
      · exact Or.inr (own_base h1 HVw.out)
    clear hbv hb2 k0 k1 k2 k3 p1 p2
    obtain ⟨HE0, HER⟩ := HD.out.fin (v := .slice ao n cap) (bv := bv) (kv := (.slice none 0 0)) (kd := kd) (val := []) (ver := vr) Hb2.out Hap.out Hbv.out (World.ownsRow_nil _ _ _ _) (w' := (setAll V2 R (rowRes kd [] vr (.slice none 0 0)))) (Or.inl rfl)
    have HE : Hid (post (.returned (.tuple #[bv, vResK kd [] vr (.slice none 0 0)])) (setAll V2 R (rowRes kd [] vr (.slice none 0 0)))) := by show post _ _; rw [← HP0.out]; exact HE0
    have HER := Lib.hid HER
    clear HE0
    obtain ⟨f0, f1, f2, f3⟩ := four_freeK ((Hb2.out : Below V.heap.size V V2).block _ (lt_of_block HD.out.rr) |>.trans HD.out.rr)
    obtain ⟨r0, r1, r2, r3⟩ := four_cellsK ((Hb2.out : Below V.heap.size V V2).block _ (lt_of_block HD.out.rr) |>.trans HD.out.rr)
    go_wp2_with fail
    all_goals
      change bodyPost _ _ _ Exit.ret _ (setAll V2 R (rowRes kd [] vr (.slice none 0 0)))
      generalize (setAll V2 R (rowRes kd [] vr (.slice none 0 0))) = W9 at HE HER ⊢
      clear r0 r1 r2 r3 f0 f1 f2 f3
      obtain ⟨r0, r1, r2, r3⟩ := four_cellsK HER.out
      refine bodyPost_ret (by simp [results, Tryd.results21, go_sem, r0, r1, r2, r3]; rfl) rfl ?_
      exact HE.out

set_option maxHeartbeats 4000000 in
set_option maxRecDepth 100000 in
theorem ra_append (c : CmdP) (v : Value) (l : List PairP) (F : Nat → Prop) (w : World) (h : Prs F w v l) (hic : isCommand c.kind c.key c.val c.iff = true) (hip : pairsB l = true) (hkind : c.kind = 5) :
    Calls Tryd.prog 21 #[v, vCmd c.kind c.key c.val c.iff] w (RefPost w l c v) := by
  obtain ⟨post, HP⟩ := hide (RefPost w l c v)
  rw [HP.out]
  obtain ⟨ao, cap, rfl, hcap, hmax⟩ := h.slice
  obtain ⟨C, hC⟩ := hide w.heap.size
  obtain ⟨W, hW⟩ := hide ((w.alloc (.cells (rowCmd c).toArray 37)).alloc (.cells zeroRes.toArray 56))
  obtain ⟨R, hR⟩ := hide (w.heap.size + 1)
  have HbW : Hid (Below w.heap.size w W) := by show Below _ _ _; rw [← hW.out]; exact ((Below.refl _ _).alloc (Nat.le_refl _) _).alloc (by simp) _
  have HCW : Hid (W.heap[C]? = some (.cells (rowCmd c).toArray 37 (0, 0))) := by show _ = _; rw [← hW.out, ← hC.out]; exact (hp_past _ _ (by simp)).trans (hp_at _ _ rfl)
  have HRW : Hid (W.heap[R]? = some (.cells zeroRes.toArray 56 (0, 0))) := by show _ = _; rw [← hW.out, ← hR.out]; exact hp_at _ _ (by simp)
  have HRl : Hid (w.heap.size ≤ R) := by show _ ≤ _; rw [← hR.out]; omega
  have HF : Hid (∀ W', Below W.heap.size W W' → Prs F W' (.slice ao l.length cap) l) := fun W' hb => h.frame (Plain.good _) ((Agree.below HbW.out).trans (Agree.below hb))
  have Hk : Hid (OkPs l) := pairsB_ok hip
  have KI := Lib.hid (ref_isCommand c.kind c.key c.val c.iff W)
  rw [hic] at KI
  have HAP : Hid (applyK l c = doK l c) := by show _ = _; unfold applyK; rw [hic, hip]; rfl
  have Hip := Lib.hid hip
  have Hcp : Hid ((1 ≤ c.kind ∧ c.kind ≤ 6) ∧ c.val.length ≤ 64 ∧ 0 ≤ c.iff) := cmd_parts hic
  obtain ⟨k, hkq⟩ := hide (place l c.key)
  obtain ⟨q, hq⟩ := hide (isK l c.key)
  obtain ⟨n, hn⟩ := hide l.length
  have HP0 := HP
  rw [hn.out] at HP0
  have Hkind := Lib.hid hkind
  have HFn : Hid (∀ W', Below W.heap.size W W' → Prs F W' (.slice ao n cap) l) := by rw [← hn.out]; exact HF
  rw [hn.out]
  clear h hic hip hkind HF hcap hmax
  obtain ⟨k0, k1, k2, k3⟩ := four_cellsK HCW.out
  go_enter Tryd.func21, Tryd.ntmps21
  go_upto_region 1 with fail
  rw [hW.out]
  try rw [hR.out]
  try rw [hC.out]
  go_wp2_with fail
  refine KI.out.mono ?_
  rintro e W3 ⟨rfl, hw3⟩
  have Hb3 : Hid (Below W.heap.size W W3) := by show Below _ _ _; rw [← hw3]; exact (Below.refl _ _).alloc (Nat.le_refl _) _
  have KV := Lib.hid (ref_isPairs _ l W3 (Sl.pairs (HFn.out _ Hb3.out)))
  rw [Hip.out] at KV
  clear hw3 k0 k1 k2 k3
  dsimp only
  go_wp2_with fail
  refine KV.out.mono ?_
  rintro e W4 ⟨rfl, hb4⟩
  have Hb4 : Hid (Below W.heap.size W W4) := Hb3.out.trans (hb4.mono Hb3.out.size)
  clear hb4
  dsimp only
  have HC4 : W4.heap[C]? = some (.cells (rowCmd c).toArray 37 (0, 0)) := (Hb4.out.block _ (lt_of_block HCW.out)).trans HCW.out
  have k1 := cell_n HC4 1 (v := str c.key) rfl
  have KG := Lib.hid (refGet_law c.key _ l F W4 (HFn.out _ Hb4.out) Hk.out)
  clear HC4
  go_upto_region 5 with fail
  go_wp2_with fail
  refine KG.out.mono ?_
  rintro e w1 ⟨rfl, rfl⟩
  dsimp only
  clear k1
  obtain ⟨gr, hgr⟩ := hide (getR l c.key)
  have Hgr : Hid (gr = if q then (k : Int) else -1) := by show _ = _; rw [← hgr.out]; unfold getR; rw [hq.out, hkq.out]
  rw [hgr.out]
  go_upto_region 7 with fail
  obtain ⟨W2, hW2⟩ := hide (W4.alloc (.cells #[.string ⟨#[]⟩, .string ⟨#[]⟩, .int .i64 0] 25))
  obtain ⟨P, hP⟩ := hide W4.heap.size
  have HbW2 : Hid (Below W.heap.size W W2) := by show Below _ _ _; rw [← hW2.out]; exact Hb4.out.alloc Hb4.out.size _
  have HC2 : Hid (W2.heap[C]? = some (.cells (rowCmd c).toArray 37 (0, 0))) := (HbW2.out.block _ (lt_of_block HCW.out)).trans HCW.out
  have HR2 : Hid (W2.heap[R]? = some (.cells zeroRes.toArray 56 (0, 0))) := (HbW2.out.block _ (lt_of_block HRW.out)).trans HRW.out
  have HP2 : Hid (W2.heap[P]? = some (.cells (rowPair zeroP).toArray 25 (0, 0))) := by show _ = _; rw [← hW2.out, ← hP.out]; exact hp_at _ _ rfl
  have HPl : Hid (W.heap.size ≤ P) := by show _ ≤ _; rw [← hP.out]; exact Hb4.out.size
  have HB0 : Hid (Below w.heap.size w W2) := HbW.out.trans (HbW2.out.mono HbW.out.size)
  rw [hW2.out, hP.out]
  go_upto_if 33 with fail
  go_cut [] from 34 to 37 (fun wx => Hid (RAt w wx C R P l c) ∧ Hid (Below W.heap.size W wx))
  case first =>
    cases q
    · have hold : oldK l c.key = zeroP := oldK_no hq.out
      have HD : Hid (RAt w W2 C R P l c) := ⟨HC2.out, HR2.out, by rw [hold]; exact HP2.out, HB0.out, HRl.out⟩
      obtain rfl : gr = -1 := by rw [Hgr.out, if_neg (by decide)]
      clear hold hgr
      go_wp2_with fail
      go_meet
      exact ⟨HD, HbW2⟩
    · obtain ⟨hkl, hkey⟩ := isK_at hq.out
      have hold : oldK l c.key = l[place l c.key] := by unfold oldK; rw [if_pos hq.out, List.getD_eq_getElem?_getD, List.getElem?_eq_getElem hkl]; rfl
      simp only [hkq.out] at hkl hold hkey
      have hkn : k < n := by rw [← hn.out]; exact hkl
      obtain rfl : gr = (k : Int) := by rw [Hgr.out, if_pos rfl]
      obtain ⟨b, off, e1, p0, p1, p2⟩ := Sl.three (HFn.out _ HbW2.out) hkl
      subst e1
      obtain ⟨y, hy⟩ := hide l[k]
      rw [hy.out] at p0 p1 p2 hold
      have t0 : decide (0 ≤ (k : Int)) = true := decide_eq_true (by omega)
      have f0 := free_n HP2.out 0
      have f1 := free_n HP2.out 1
      have f2 := free_n HP2.out 2
      have z0 := cell_n HP2.out 0 (v := .string ⟨#[]⟩) rfl
      have z1 := cell_n HP2.out 1 (v := .string ⟨#[]⟩) rfl
      have z2 := cell_n HP2.out 2 (v := .int .i64 0) rfl
      have hki : (k : Int) < (n : Int) := by omega
      have HD : Hid (RAt w (setAll W2 P (rowPair y)) C R P l c) := by
        have hpc : P ≠ C := fun e => by have := HPl.out; have := lt_of_block HCW.out; omega
        have hpr : P ≠ R := fun e => by have := HPl.out; have := lt_of_block HRW.out; omega
        refine ⟨setAll_other HC2.out hpc _, setAll_other HR2.out hpr _, by rw [hold]; exact setAll_at (xs := rowPair zeroP) HP2.out _ rfl, setAll_below HB0.out (by have h1 := HPl.out; have h2 := HbW.out.size; omega) _, HRl.out⟩
      have HD2 : Hid (Below W.heap.size W (setAll W2 P (rowPair y))) := setAll_below HbW2.out HPl.out _
      clear hold hkey hgr
      go_wp2_with fail
      go_meet
      exact ⟨HD, HD2⟩
  case rest =>
    obtain ⟨V, hV⟩ : ∃ V, V = wc := ⟨_, rfl⟩
    subst hV
    obtain ⟨HD, HbV⟩ := hcut
    have HFV : Hid (∀ W', Below V.heap.size V W' → Prs F W' (.slice ao n cap) l) := fun W' hb => HFn.out _ (HbV.out.trans (hb.mono HbV.out.size))
    have HVw : Hid (w.heap.size ≤ V.heap.size) := HD.out.bel.size
    have k0 := cell_n HD.out.cc 0 (v := .int .i64 c.kind) rfl
    have k1 := cell_n HD.out.cc 1 (v := str c.key) rfl
    have k2 := cell_n HD.out.cc 2 (v := str c.val) rfl
    have k3 := cell_n HD.out.cc 3 (v := .int .i64 c.iff) rfl
    have p1 := cell_n HD.out.pp 1 (v := str (oldK l c.key).val) rfl
    have p2 := cell_n HD.out.pp 2 (v := .int .i64 (oldK l c.key).ver) rfl
    obtain ⟨yv, hyv⟩ := hide (oldK l c.key).val
    obtain ⟨yr, hyr⟩ := hide (oldK l c.key).ver
    rw [hyv.out] at p1
    rw [hyr.out] at p2
    have t1 : (c.kind == 1) = false := by rw [Hkind.out]; rfl
    have t5 : (c.kind == 5) = true := by rw [Hkind.out]; rfl
    have hd0 : Hid (doK l c = putK l c.key ((oldK l c.key).val ++ c.val)) := by show _ = _; unfold doK; rw [if_neg (by rw [Hkind.out]; decide), if_pos Hkind.out]
    have hov : (oldK l c.key).val.length ≤ 64 := by
      cases hi : isK l c.key
      · rw [oldK_no hi]; decide
      · exact Hk.out.val _ (oldK_at hi).1
    rw [hyv.out] at hd0 hov
    have hcv := Hcp.out.2.1
    have hadd : ¬ 9223372036854775807 < yv.length + c.val.length := by omega
    have hd : Hid (doK l c = putK l c.key (yv ++ c.val)) := hd0
    have KP := Lib.hid (refPut_law c.key (yv ++ c.val) _ l F V (HFV.out _ (Below.refl _ _)) Hk.out)
    go_wp2_with fail
    refine KP.out.mono ?_
    rintro e V2 ⟨bv, rfl, hbv, hb2⟩
    have Hap : Hid (applyK l c = putK l c.key (yv ++ c.val)) := HAP.out.trans hd.out
    obtain ⟨xs, hxs⟩ := hide (putK l c.key (yv ++ c.val))
    obtain ⟨ev, ek⟩ := putK_val l c.key (yv ++ c.val)
    rw [hxs.out] at hbv Hap ev ek
    rw [hxs.out]
    obtain ⟨l2, kd, vl, vr, ks⟩ := xs
    dsimp only at hbv Hap ev ek ⊢
    subst ev ek
    have Hb2 := Lib.hid hb2
    have Hbv : Hid ((bv = .slice ao n cap ∧ l2 = l) ∨ OwnP w.heap.size V2 bv l2) := by
      rcases hbv with h1 | h1
      · exact Or.inl h1
      · exact Or.inr (own_base h1 HVw.out)
    clear hbv hb2 k0 k1 k2 k3 p1 p2
    obtain ⟨HE0, HER⟩ := HD.out.fin (v := .slice ao n cap) (bv := bv) (kv := (.slice none 0 0)) (kd := kd) (val := []) (ver := vr) Hb2.out Hap.out Hbv.out (World.ownsRow_nil _ _ _ _) (w' := (setAll V2 R (rowRes kd [] vr (.slice none 0 0)))) (Or.inl rfl)
    have HE : Hid (post (.returned (.tuple #[bv, vResK kd [] vr (.slice none 0 0)])) (setAll V2 R (rowRes kd [] vr (.slice none 0 0)))) := by show post _ _; rw [← HP0.out]; exact HE0
    have HER := Lib.hid HER
    clear HE0
    obtain ⟨f0, f1, f2, f3⟩ := four_freeK ((Hb2.out : Below V.heap.size V V2).block _ (lt_of_block HD.out.rr) |>.trans HD.out.rr)
    obtain ⟨r0, r1, r2, r3⟩ := four_cellsK ((Hb2.out : Below V.heap.size V V2).block _ (lt_of_block HD.out.rr) |>.trans HD.out.rr)
    go_wp2_with fail
    all_goals
      change bodyPost _ _ _ Exit.ret _ (setAll V2 R (rowRes kd [] vr (.slice none 0 0)))
      generalize (setAll V2 R (rowRes kd [] vr (.slice none 0 0))) = W9 at HE HER ⊢
      clear r0 r1 r2 r3 f0 f1 f2 f3
      obtain ⟨r0, r1, r2, r3⟩ := four_cellsK HER.out
      refine bodyPost_ret (by simp [results, Tryd.results21, go_sem, r0, r1, r2, r3]; rfl) rfl ?_
      exact HE.out

set_option maxHeartbeats 4000000 in
set_option maxRecDepth 100000 in
theorem ra_swap (c : CmdP) (v : Value) (l : List PairP) (F : Nat → Prop) (w : World) (h : Prs F w v l) (hic : isCommand c.kind c.key c.val c.iff = true) (hip : pairsB l = true) (hkind : c.kind = 4) :
    Calls Tryd.prog 21 #[v, vCmd c.kind c.key c.val c.iff] w (RefPost w l c v) := by
  obtain ⟨post, HP⟩ := hide (RefPost w l c v)
  rw [HP.out]
  obtain ⟨ao, cap, rfl, hcap, hmax⟩ := h.slice
  obtain ⟨C, hC⟩ := hide w.heap.size
  obtain ⟨W, hW⟩ := hide ((w.alloc (.cells (rowCmd c).toArray 37)).alloc (.cells zeroRes.toArray 56))
  obtain ⟨R, hR⟩ := hide (w.heap.size + 1)
  have HbW : Hid (Below w.heap.size w W) := by show Below _ _ _; rw [← hW.out]; exact ((Below.refl _ _).alloc (Nat.le_refl _) _).alloc (by simp) _
  have HCW : Hid (W.heap[C]? = some (.cells (rowCmd c).toArray 37 (0, 0))) := by show _ = _; rw [← hW.out, ← hC.out]; exact (hp_past _ _ (by simp)).trans (hp_at _ _ rfl)
  have HRW : Hid (W.heap[R]? = some (.cells zeroRes.toArray 56 (0, 0))) := by show _ = _; rw [← hW.out, ← hR.out]; exact hp_at _ _ (by simp)
  have HRl : Hid (w.heap.size ≤ R) := by show _ ≤ _; rw [← hR.out]; omega
  have HF : Hid (∀ W', Below W.heap.size W W' → Prs F W' (.slice ao l.length cap) l) := fun W' hb => h.frame (Plain.good _) ((Agree.below HbW.out).trans (Agree.below hb))
  have Hk : Hid (OkPs l) := pairsB_ok hip
  have KI := Lib.hid (ref_isCommand c.kind c.key c.val c.iff W)
  rw [hic] at KI
  have HAP : Hid (applyK l c = doK l c) := by show _ = _; unfold applyK; rw [hic, hip]; rfl
  have Hip := Lib.hid hip
  have Hcp : Hid ((1 ≤ c.kind ∧ c.kind ≤ 6) ∧ c.val.length ≤ 64 ∧ 0 ≤ c.iff) := cmd_parts hic
  obtain ⟨k, hkq⟩ := hide (place l c.key)
  obtain ⟨q, hq⟩ := hide (isK l c.key)
  obtain ⟨n, hn⟩ := hide l.length
  have HP0 := HP
  rw [hn.out] at HP0
  have Hkind := Lib.hid hkind
  have HFn : Hid (∀ W', Below W.heap.size W W' → Prs F W' (.slice ao n cap) l) := by rw [← hn.out]; exact HF
  rw [hn.out]
  clear h hic hip hkind HF hcap hmax
  obtain ⟨k0, k1, k2, k3⟩ := four_cellsK HCW.out
  go_enter Tryd.func21, Tryd.ntmps21
  go_upto_region 1 with fail
  rw [hW.out]
  try rw [hR.out]
  try rw [hC.out]
  go_wp2_with fail
  refine KI.out.mono ?_
  rintro e W3 ⟨rfl, hw3⟩
  have Hb3 : Hid (Below W.heap.size W W3) := by show Below _ _ _; rw [← hw3]; exact (Below.refl _ _).alloc (Nat.le_refl _) _
  have KV := Lib.hid (ref_isPairs _ l W3 (Sl.pairs (HFn.out _ Hb3.out)))
  rw [Hip.out] at KV
  clear hw3 k0 k1 k2 k3
  dsimp only
  go_wp2_with fail
  refine KV.out.mono ?_
  rintro e W4 ⟨rfl, hb4⟩
  have Hb4 : Hid (Below W.heap.size W W4) := Hb3.out.trans (hb4.mono Hb3.out.size)
  clear hb4
  dsimp only
  have HC4 : W4.heap[C]? = some (.cells (rowCmd c).toArray 37 (0, 0)) := (Hb4.out.block _ (lt_of_block HCW.out)).trans HCW.out
  have k1 := cell_n HC4 1 (v := str c.key) rfl
  have KG := Lib.hid (refGet_law c.key _ l F W4 (HFn.out _ Hb4.out) Hk.out)
  clear HC4
  go_upto_region 5 with fail
  go_wp2_with fail
  refine KG.out.mono ?_
  rintro e w1 ⟨rfl, rfl⟩
  dsimp only
  clear k1
  obtain ⟨gr, hgr⟩ := hide (getR l c.key)
  have Hgr : Hid (gr = if q then (k : Int) else -1) := by show _ = _; rw [← hgr.out]; unfold getR; rw [hq.out, hkq.out]
  rw [hgr.out]
  go_upto_region 7 with fail
  obtain ⟨W2, hW2⟩ := hide (W4.alloc (.cells #[.string ⟨#[]⟩, .string ⟨#[]⟩, .int .i64 0] 25))
  obtain ⟨P, hP⟩ := hide W4.heap.size
  have HbW2 : Hid (Below W.heap.size W W2) := by show Below _ _ _; rw [← hW2.out]; exact Hb4.out.alloc Hb4.out.size _
  have HC2 : Hid (W2.heap[C]? = some (.cells (rowCmd c).toArray 37 (0, 0))) := (HbW2.out.block _ (lt_of_block HCW.out)).trans HCW.out
  have HR2 : Hid (W2.heap[R]? = some (.cells zeroRes.toArray 56 (0, 0))) := (HbW2.out.block _ (lt_of_block HRW.out)).trans HRW.out
  have HP2 : Hid (W2.heap[P]? = some (.cells (rowPair zeroP).toArray 25 (0, 0))) := by show _ = _; rw [← hW2.out, ← hP.out]; exact hp_at _ _ rfl
  have HPl : Hid (W.heap.size ≤ P) := by show _ ≤ _; rw [← hP.out]; exact Hb4.out.size
  have HB0 : Hid (Below w.heap.size w W2) := HbW.out.trans (HbW2.out.mono HbW.out.size)
  rw [hW2.out, hP.out]
  go_upto_if 33 with fail
  go_cut [] from 34 to 37 (fun wx => Hid (RAt w wx C R P l c) ∧ Hid (Below W.heap.size W wx))
  case first =>
    cases q
    · have hold : oldK l c.key = zeroP := oldK_no hq.out
      have HD : Hid (RAt w W2 C R P l c) := ⟨HC2.out, HR2.out, by rw [hold]; exact HP2.out, HB0.out, HRl.out⟩
      obtain rfl : gr = -1 := by rw [Hgr.out, if_neg (by decide)]
      clear hold hgr
      go_wp2_with fail
      go_meet
      exact ⟨HD, HbW2⟩
    · obtain ⟨hkl, hkey⟩ := isK_at hq.out
      have hold : oldK l c.key = l[place l c.key] := by unfold oldK; rw [if_pos hq.out, List.getD_eq_getElem?_getD, List.getElem?_eq_getElem hkl]; rfl
      simp only [hkq.out] at hkl hold hkey
      have hkn : k < n := by rw [← hn.out]; exact hkl
      obtain rfl : gr = (k : Int) := by rw [Hgr.out, if_pos rfl]
      obtain ⟨b, off, e1, p0, p1, p2⟩ := Sl.three (HFn.out _ HbW2.out) hkl
      subst e1
      obtain ⟨y, hy⟩ := hide l[k]
      rw [hy.out] at p0 p1 p2 hold
      have t0 : decide (0 ≤ (k : Int)) = true := decide_eq_true (by omega)
      have f0 := free_n HP2.out 0
      have f1 := free_n HP2.out 1
      have f2 := free_n HP2.out 2
      have z0 := cell_n HP2.out 0 (v := .string ⟨#[]⟩) rfl
      have z1 := cell_n HP2.out 1 (v := .string ⟨#[]⟩) rfl
      have z2 := cell_n HP2.out 2 (v := .int .i64 0) rfl
      have hki : (k : Int) < (n : Int) := by omega
      have HD : Hid (RAt w (setAll W2 P (rowPair y)) C R P l c) := by
        have hpc : P ≠ C := fun e => by have := HPl.out; have := lt_of_block HCW.out; omega
        have hpr : P ≠ R := fun e => by have := HPl.out; have := lt_of_block HRW.out; omega
        refine ⟨setAll_other HC2.out hpc _, setAll_other HR2.out hpr _, by rw [hold]; exact setAll_at (xs := rowPair zeroP) HP2.out _ rfl, setAll_below HB0.out (by have h1 := HPl.out; have h2 := HbW.out.size; omega) _, HRl.out⟩
      have HD2 : Hid (Below W.heap.size W (setAll W2 P (rowPair y))) := setAll_below HbW2.out HPl.out _
      clear hold hkey hgr
      go_wp2_with fail
      go_meet
      exact ⟨HD, HD2⟩
  case rest =>
    obtain ⟨V, hV⟩ : ∃ V, V = wc := ⟨_, rfl⟩
    subst hV
    obtain ⟨HD, HbV⟩ := hcut
    have HFV : Hid (∀ W', Below V.heap.size V W' → Prs F W' (.slice ao n cap) l) := fun W' hb => HFn.out _ (HbV.out.trans (hb.mono HbV.out.size))
    have HVw : Hid (w.heap.size ≤ V.heap.size) := HD.out.bel.size
    have k0 := cell_n HD.out.cc 0 (v := .int .i64 c.kind) rfl
    have k1 := cell_n HD.out.cc 1 (v := str c.key) rfl
    have k2 := cell_n HD.out.cc 2 (v := str c.val) rfl
    have k3 := cell_n HD.out.cc 3 (v := .int .i64 c.iff) rfl
    have p1 := cell_n HD.out.pp 1 (v := str (oldK l c.key).val) rfl
    have p2 := cell_n HD.out.pp 2 (v := .int .i64 (oldK l c.key).ver) rfl
    obtain ⟨yv, hyv⟩ := hide (oldK l c.key).val
    obtain ⟨yr, hyr⟩ := hide (oldK l c.key).ver
    rw [hyv.out] at p1
    rw [hyr.out] at p2
    have t1 : (c.kind == 1) = false := by rw [Hkind.out]; rfl
    have t5 : (c.kind == 5) = false := by rw [Hkind.out]; rfl
    have t4 : (c.kind == 4) = true := by rw [Hkind.out]; rfl
    have hd0 : doK l c = (if q = false ∧ 0 < c.iff then (l, ⟨2, [], 0, []⟩) else if (oldK l c.key).ver ≠ c.iff then (l, ⟨3, (oldK l c.key).val, (oldK l c.key).ver, []⟩) else putK l c.key c.val) := by
      unfold doK
      rw [if_neg (by rw [Hkind.out]; decide), if_neg (by rw [Hkind.out]; decide), if_pos Hkind.out, hq.out]
    rw [hyv.out, hyr.out] at hd0
    have hg : decide (gr < 0) = !q := by
      rw [Hgr.out]
      cases q
      · rfl
      · exact decide_eq_false (by rw [if_pos rfl]; omega)
    by_cases hm : q = false ∧ 0 < c.iff
    · have Hd : Hid (doK l c = (l, ⟨2, [], 0, []⟩)) := hd0.trans (if_pos hm)
      obtain ⟨hq0, hi0⟩ := hm
      have u1 : decide (0 < c.iff) = true := decide_eq_true hi0
      clear hd0 hi0
      subst hq0
      rw [Bool.not_false] at hg
      obtain ⟨HE0, HER⟩ := HD.out.fin (v := .slice ao n cap) (bv := (.slice ao n cap)) (kv := (.slice none 0 0)) (kd := 2) (val := []) (ver := 0) (Below.refl _ _) (HAP.out.trans Hd.out) (Or.inl ⟨rfl, rfl⟩) (World.ownsRow_nil _ _ _ _) (w' := (setAll V R (rowRes 2 [] 0 (.slice none 0 0)))) (Or.inl rfl)
      have HE : Hid (post (.returned (.tuple #[(.slice ao n cap), vResK 2 [] 0 (.slice none 0 0)])) (setAll V R (rowRes 2 [] 0 (.slice none 0 0)))) := by show post _ _; rw [← HP0.out]; exact HE0
      have HER := Lib.hid HER
      clear HE0
      obtain ⟨f0, f1, f2, f3⟩ := four_freeK (((Below.refl _ _) : Below V.heap.size V V).block _ (lt_of_block HD.out.rr) |>.trans HD.out.rr)
      obtain ⟨r0, r1, r2, r3⟩ := four_cellsK (((Below.refl _ _) : Below V.heap.size V V).block _ (lt_of_block HD.out.rr) |>.trans HD.out.rr)
      go_wp2_with fail
      all_goals
        change bodyPost _ _ _ Exit.ret _ (setAll V R (rowRes 2 [] 0 (.slice none 0 0)))
        generalize (setAll V R (rowRes 2 [] 0 (.slice none 0 0))) = W9 at HE HER ⊢
        clear r0 r1 r2 r3 f0 f1 f2 f3
        obtain ⟨r0, r1, r2, r3⟩ := four_cellsK HER.out
        refine bodyPost_ret (by simp [results, Tryd.results21, go_sem, r0, r1, r2, r3]; rfl) rfl ?_
        exact HE.out
    · have hd1 := hd0.trans (if_neg hm)
      by_cases hv : yr ≠ c.iff
      · have Hd : Hid (doK l c = (l, ⟨3, yv, yr, []⟩)) := hd1.trans (if_pos hv)
        have u2 : (yr != c.iff) = true := by rw [bne_iff_ne]; exact hv
        have Hm := Lib.hid hm
        clear hd0 hd1 hv hm
        cases q
        · have u1 : decide (0 < c.iff) = false := decide_eq_false (fun h => Hm.out ⟨rfl, h⟩)
          rw [Bool.not_false] at hg
          obtain ⟨HE0, HER⟩ := HD.out.fin (v := .slice ao n cap) (bv := (.slice ao n cap)) (kv := (.slice none 0 0)) (kd := 3) (val := yv) (ver := yr) (Below.refl _ _) (HAP.out.trans Hd.out) (Or.inl ⟨rfl, rfl⟩) (World.ownsRow_nil _ _ _ _) (w' := (setAll V R (rowRes 3 yv yr (.slice none 0 0))).drew) (Or.inr rfl)
          have HE : Hid (post (.returned (.tuple #[(.slice ao n cap), vResK 3 yv yr (.slice none 0 0)])) (setAll V R (rowRes 3 yv yr (.slice none 0 0))).drew) := by show post _ _; rw [← HP0.out]; exact HE0
          have HER := Lib.hid HER
          clear HE0
          obtain ⟨f0, f1, f2, f3⟩ := four_freeK (((Below.refl _ _) : Below V.heap.size V V).block _ (lt_of_block HD.out.rr) |>.trans HD.out.rr)
          obtain ⟨r0, r1, r2, r3⟩ := four_cellsK (((Below.refl _ _) : Below V.heap.size V V).block _ (lt_of_block HD.out.rr) |>.trans HD.out.rr)
          go_upto_region 18 with fail
          go_region
          all_goals
            try go_wp2_with fail
            change bodyPost _ _ _ Exit.ret _ (setAll V R (rowRes 3 yv yr (.slice none 0 0))).drew
            generalize (setAll V R (rowRes 3 yv yr (.slice none 0 0))).drew = W9 at HE HER ⊢
            clear r0 r1 r2 r3 f0 f1 f2 f3
            obtain ⟨r0, r1, r2, r3⟩ := four_cellsK HER.out
            refine bodyPost_ret (by simp [results, Tryd.results21, go_sem, r0, r1, r2, r3]; rfl) rfl ?_
            exact HE.out
        · rw [Bool.not_true] at hg
          obtain ⟨HE0, HER⟩ := HD.out.fin (v := .slice ao n cap) (bv := (.slice ao n cap)) (kv := (.slice none 0 0)) (kd := 3) (val := yv) (ver := yr) (Below.refl _ _) (HAP.out.trans Hd.out) (Or.inl ⟨rfl, rfl⟩) (World.ownsRow_nil _ _ _ _) (w' := (setAll V R (rowRes 3 yv yr (.slice none 0 0))).drew) (Or.inr rfl)
          have HE : Hid (post (.returned (.tuple #[(.slice ao n cap), vResK 3 yv yr (.slice none 0 0)])) (setAll V R (rowRes 3 yv yr (.slice none 0 0))).drew) := by show post _ _; rw [← HP0.out]; exact HE0
          have HER := Lib.hid HER
          clear HE0
          obtain ⟨f0, f1, f2, f3⟩ := four_freeK (((Below.refl _ _) : Below V.heap.size V V).block _ (lt_of_block HD.out.rr) |>.trans HD.out.rr)
          obtain ⟨r0, r1, r2, r3⟩ := four_cellsK (((Below.refl _ _) : Below V.heap.size V V).block _ (lt_of_block HD.out.rr) |>.trans HD.out.rr)
          go_upto_region 18 with fail
          go_region
          all_goals
            try go_wp2_with fail
            change bodyPost _ _ _ Exit.ret _ (setAll V R (rowRes 3 yv yr (.slice none 0 0))).drew
            generalize (setAll V R (rowRes 3 yv yr (.slice none 0 0))).drew = W9 at HE HER ⊢
            clear r0 r1 r2 r3 f0 f1 f2 f3
            obtain ⟨r0, r1, r2, r3⟩ := four_cellsK HER.out
            refine bodyPost_ret (by simp [results, Tryd.results21, go_sem, r0, r1, r2, r3]; rfl) rfl ?_
            exact HE.out
      · have hd : Hid (doK l c = putK l c.key c.val) := hd1.trans (if_neg hv)
        have u2 : (yr != c.iff) = false := by rw [bne_eq_false_iff_eq]; exact Decidable.not_not.1 hv
        have Hm := Lib.hid hm
        clear hd0 hd1 hv hm
        cases q
        · have u1 : decide (0 < c.iff) = false := decide_eq_false (fun h => Hm.out ⟨rfl, h⟩)
          rw [Bool.not_false] at hg
          have KP := Lib.hid (refPut_law c.key c.val _ l F V (HFV.out _ (Below.refl _ _)) Hk.out)
          go_wp2_with fail
          refine KP.out.mono ?_
          rintro e V2 ⟨bv, rfl, hbv, hb2⟩
          have Hap : Hid (applyK l c = putK l c.key c.val) := HAP.out.trans hd.out
          obtain ⟨xs, hxs⟩ := hide (putK l c.key c.val)
          obtain ⟨ev, ek⟩ := putK_val l c.key c.val
          rw [hxs.out] at hbv Hap ev ek
          rw [hxs.out]
          obtain ⟨l2, kd, vl, vr, ks⟩ := xs
          dsimp only at hbv Hap ev ek ⊢
          subst ev ek
          have Hb2 := Lib.hid hb2
          have Hbv : Hid ((bv = .slice ao n cap ∧ l2 = l) ∨ OwnP w.heap.size V2 bv l2) := by
            rcases hbv with h1 | h1
            · exact Or.inl h1
            · exact Or.inr (own_base h1 HVw.out)
          clear hbv hb2 k0 k1 k2 k3 p1 p2
          obtain ⟨HE0, HER⟩ := HD.out.fin (v := .slice ao n cap) (bv := bv) (kv := (.slice none 0 0)) (kd := kd) (val := []) (ver := vr) Hb2.out Hap.out Hbv.out (World.ownsRow_nil _ _ _ _) (w' := (setAll V2 R (rowRes kd [] vr (.slice none 0 0)))) (Or.inl rfl)
          have HE : Hid (post (.returned (.tuple #[bv, vResK kd [] vr (.slice none 0 0)])) (setAll V2 R (rowRes kd [] vr (.slice none 0 0)))) := by show post _ _; rw [← HP0.out]; exact HE0
          have HER := Lib.hid HER
          clear HE0
          obtain ⟨f0, f1, f2, f3⟩ := four_freeK ((Hb2.out : Below V.heap.size V V2).block _ (lt_of_block HD.out.rr) |>.trans HD.out.rr)
          obtain ⟨r0, r1, r2, r3⟩ := four_cellsK ((Hb2.out : Below V.heap.size V V2).block _ (lt_of_block HD.out.rr) |>.trans HD.out.rr)
          go_wp2_with fail
          all_goals
            change bodyPost _ _ _ Exit.ret _ (setAll V2 R (rowRes kd [] vr (.slice none 0 0)))
            generalize (setAll V2 R (rowRes kd [] vr (.slice none 0 0))) = W9 at HE HER ⊢
            clear r0 r1 r2 r3 f0 f1 f2 f3
            obtain ⟨r0, r1, r2, r3⟩ := four_cellsK HER.out
            refine bodyPost_ret (by simp [results, Tryd.results21, go_sem, r0, r1, r2, r3]; rfl) rfl ?_
            exact HE.out
        · rw [Bool.not_true] at hg
          have KP := Lib.hid (refPut_law c.key c.val _ l F V (HFV.out _ (Below.refl _ _)) Hk.out)
          go_wp2_with fail
          refine KP.out.mono ?_
          rintro e V2 ⟨bv, rfl, hbv, hb2⟩
          have Hap : Hid (applyK l c = putK l c.key c.val) := HAP.out.trans hd.out
          obtain ⟨xs, hxs⟩ := hide (putK l c.key c.val)
          obtain ⟨ev, ek⟩ := putK_val l c.key c.val
          rw [hxs.out] at hbv Hap ev ek
          rw [hxs.out]
          obtain ⟨l2, kd, vl, vr, ks⟩ := xs
          dsimp only at hbv Hap ev ek ⊢
          subst ev ek
          have Hb2 := Lib.hid hb2
          have Hbv : Hid ((bv = .slice ao n cap ∧ l2 = l) ∨ OwnP w.heap.size V2 bv l2) := by
            rcases hbv with h1 | h1
            · exact Or.inl h1
            · exact Or.inr (own_base h1 HVw.out)
          clear hbv hb2 k0 k1 k2 k3 p1 p2
          obtain ⟨HE0, HER⟩ := HD.out.fin (v := .slice ao n cap) (bv := bv) (kv := (.slice none 0 0)) (kd := kd) (val := []) (ver := vr) Hb2.out Hap.out Hbv.out (World.ownsRow_nil _ _ _ _) (w' := (setAll V2 R (rowRes kd [] vr (.slice none 0 0)))) (Or.inl rfl)
          have HE : Hid (post (.returned (.tuple #[bv, vResK kd [] vr (.slice none 0 0)])) (setAll V2 R (rowRes kd [] vr (.slice none 0 0)))) := by show post _ _; rw [← HP0.out]; exact HE0
          have HER := Lib.hid HER
          clear HE0
          obtain ⟨f0, f1, f2, f3⟩ := four_freeK ((Hb2.out : Below V.heap.size V V2).block _ (lt_of_block HD.out.rr) |>.trans HD.out.rr)
          obtain ⟨r0, r1, r2, r3⟩ := four_cellsK ((Hb2.out : Below V.heap.size V V2).block _ (lt_of_block HD.out.rr) |>.trans HD.out.rr)
          go_wp2_with fail
          all_goals
            change bodyPost _ _ _ Exit.ret _ (setAll V2 R (rowRes kd [] vr (.slice none 0 0)))
            generalize (setAll V2 R (rowRes kd [] vr (.slice none 0 0))) = W9 at HE HER ⊢
            clear r0 r1 r2 r3 f0 f1 f2 f3
            obtain ⟨r0, r1, r2, r3⟩ := four_cellsK HER.out
            refine bodyPost_ret (by simp [results, Tryd.results21, go_sem, r0, r1, r2, r3]; rfl) rfl ?_
            exact HE.out

set_option maxHeartbeats 4000000 in
set_option maxRecDepth 100000 in
theorem ra_get (c : CmdP) (v : Value) (l : List PairP) (F : Nat → Prop) (w : World) (h : Prs F w v l) (hic : isCommand c.kind c.key c.val c.iff = true) (hip : pairsB l = true) (hkind : c.kind = 2) :
    Calls Tryd.prog 21 #[v, vCmd c.kind c.key c.val c.iff] w (RefPost w l c v) := by
  obtain ⟨post, HP⟩ := hide (RefPost w l c v)
  rw [HP.out]
  obtain ⟨ao, cap, rfl, hcap, hmax⟩ := h.slice
  obtain ⟨C, hC⟩ := hide w.heap.size
  obtain ⟨W, hW⟩ := hide ((w.alloc (.cells (rowCmd c).toArray 37)).alloc (.cells zeroRes.toArray 56))
  obtain ⟨R, hR⟩ := hide (w.heap.size + 1)
  have HbW : Hid (Below w.heap.size w W) := by show Below _ _ _; rw [← hW.out]; exact ((Below.refl _ _).alloc (Nat.le_refl _) _).alloc (by simp) _
  have HCW : Hid (W.heap[C]? = some (.cells (rowCmd c).toArray 37 (0, 0))) := by show _ = _; rw [← hW.out, ← hC.out]; exact (hp_past _ _ (by simp)).trans (hp_at _ _ rfl)
  have HRW : Hid (W.heap[R]? = some (.cells zeroRes.toArray 56 (0, 0))) := by show _ = _; rw [← hW.out, ← hR.out]; exact hp_at _ _ (by simp)
  have HRl : Hid (w.heap.size ≤ R) := by show _ ≤ _; rw [← hR.out]; omega
  have HF : Hid (∀ W', Below W.heap.size W W' → Prs F W' (.slice ao l.length cap) l) := fun W' hb => h.frame (Plain.good _) ((Agree.below HbW.out).trans (Agree.below hb))
  have Hk : Hid (OkPs l) := pairsB_ok hip
  have KI := Lib.hid (ref_isCommand c.kind c.key c.val c.iff W)
  rw [hic] at KI
  have HAP : Hid (applyK l c = doK l c) := by show _ = _; unfold applyK; rw [hic, hip]; rfl
  have Hip := Lib.hid hip
  have Hcp : Hid ((1 ≤ c.kind ∧ c.kind ≤ 6) ∧ c.val.length ≤ 64 ∧ 0 ≤ c.iff) := cmd_parts hic
  obtain ⟨k, hkq⟩ := hide (place l c.key)
  obtain ⟨q, hq⟩ := hide (isK l c.key)
  obtain ⟨n, hn⟩ := hide l.length
  have HP0 := HP
  rw [hn.out] at HP0
  have Hkind := Lib.hid hkind
  have HFn : Hid (∀ W', Below W.heap.size W W' → Prs F W' (.slice ao n cap) l) := by rw [← hn.out]; exact HF
  rw [hn.out]
  clear h hic hip hkind HF hcap hmax
  obtain ⟨k0, k1, k2, k3⟩ := four_cellsK HCW.out
  go_enter Tryd.func21, Tryd.ntmps21
  go_upto_region 1 with fail
  rw [hW.out]
  try rw [hR.out]
  try rw [hC.out]
  go_wp2_with fail
  refine KI.out.mono ?_
  rintro e W3 ⟨rfl, hw3⟩
  have Hb3 : Hid (Below W.heap.size W W3) := by show Below _ _ _; rw [← hw3]; exact (Below.refl _ _).alloc (Nat.le_refl _) _
  have KV := Lib.hid (ref_isPairs _ l W3 (Sl.pairs (HFn.out _ Hb3.out)))
  rw [Hip.out] at KV
  clear hw3 k0 k1 k2 k3
  dsimp only
  go_wp2_with fail
  refine KV.out.mono ?_
  rintro e W4 ⟨rfl, hb4⟩
  have Hb4 : Hid (Below W.heap.size W W4) := Hb3.out.trans (hb4.mono Hb3.out.size)
  clear hb4
  dsimp only
  have HC4 : W4.heap[C]? = some (.cells (rowCmd c).toArray 37 (0, 0)) := (Hb4.out.block _ (lt_of_block HCW.out)).trans HCW.out
  have k1 := cell_n HC4 1 (v := str c.key) rfl
  have KG := Lib.hid (refGet_law c.key _ l F W4 (HFn.out _ Hb4.out) Hk.out)
  clear HC4
  go_upto_region 5 with fail
  go_wp2_with fail
  refine KG.out.mono ?_
  rintro e w1 ⟨rfl, rfl⟩
  dsimp only
  clear k1
  obtain ⟨gr, hgr⟩ := hide (getR l c.key)
  have Hgr : Hid (gr = if q then (k : Int) else -1) := by show _ = _; rw [← hgr.out]; unfold getR; rw [hq.out, hkq.out]
  rw [hgr.out]
  go_upto_region 7 with fail
  obtain ⟨W2, hW2⟩ := hide (W4.alloc (.cells #[.string ⟨#[]⟩, .string ⟨#[]⟩, .int .i64 0] 25))
  obtain ⟨P, hP⟩ := hide W4.heap.size
  have HbW2 : Hid (Below W.heap.size W W2) := by show Below _ _ _; rw [← hW2.out]; exact Hb4.out.alloc Hb4.out.size _
  have HC2 : Hid (W2.heap[C]? = some (.cells (rowCmd c).toArray 37 (0, 0))) := (HbW2.out.block _ (lt_of_block HCW.out)).trans HCW.out
  have HR2 : Hid (W2.heap[R]? = some (.cells zeroRes.toArray 56 (0, 0))) := (HbW2.out.block _ (lt_of_block HRW.out)).trans HRW.out
  have HP2 : Hid (W2.heap[P]? = some (.cells (rowPair zeroP).toArray 25 (0, 0))) := by show _ = _; rw [← hW2.out, ← hP.out]; exact hp_at _ _ rfl
  have HPl : Hid (W.heap.size ≤ P) := by show _ ≤ _; rw [← hP.out]; exact Hb4.out.size
  have HB0 : Hid (Below w.heap.size w W2) := HbW.out.trans (HbW2.out.mono HbW.out.size)
  rw [hW2.out, hP.out]
  go_upto_if 33 with fail
  go_cut [] from 34 to 37 (fun wx => Hid (RAt w wx C R P l c) ∧ Hid (Below W.heap.size W wx))
  case first =>
    cases q
    · have hold : oldK l c.key = zeroP := oldK_no hq.out
      have HD : Hid (RAt w W2 C R P l c) := ⟨HC2.out, HR2.out, by rw [hold]; exact HP2.out, HB0.out, HRl.out⟩
      obtain rfl : gr = -1 := by rw [Hgr.out, if_neg (by decide)]
      clear hold hgr
      go_wp2_with fail
      go_meet
      exact ⟨HD, HbW2⟩
    · obtain ⟨hkl, hkey⟩ := isK_at hq.out
      have hold : oldK l c.key = l[place l c.key] := by unfold oldK; rw [if_pos hq.out, List.getD_eq_getElem?_getD, List.getElem?_eq_getElem hkl]; rfl
      simp only [hkq.out] at hkl hold hkey
      have hkn : k < n := by rw [← hn.out]; exact hkl
      obtain rfl : gr = (k : Int) := by rw [Hgr.out, if_pos rfl]
      obtain ⟨b, off, e1, p0, p1, p2⟩ := Sl.three (HFn.out _ HbW2.out) hkl
      subst e1
      obtain ⟨y, hy⟩ := hide l[k]
      rw [hy.out] at p0 p1 p2 hold
      have t0 : decide (0 ≤ (k : Int)) = true := decide_eq_true (by omega)
      have f0 := free_n HP2.out 0
      have f1 := free_n HP2.out 1
      have f2 := free_n HP2.out 2
      have z0 := cell_n HP2.out 0 (v := .string ⟨#[]⟩) rfl
      have z1 := cell_n HP2.out 1 (v := .string ⟨#[]⟩) rfl
      have z2 := cell_n HP2.out 2 (v := .int .i64 0) rfl
      have hki : (k : Int) < (n : Int) := by omega
      have HD : Hid (RAt w (setAll W2 P (rowPair y)) C R P l c) := by
        have hpc : P ≠ C := fun e => by have := HPl.out; have := lt_of_block HCW.out; omega
        have hpr : P ≠ R := fun e => by have := HPl.out; have := lt_of_block HRW.out; omega
        refine ⟨setAll_other HC2.out hpc _, setAll_other HR2.out hpr _, by rw [hold]; exact setAll_at (xs := rowPair zeroP) HP2.out _ rfl, setAll_below HB0.out (by have h1 := HPl.out; have h2 := HbW.out.size; omega) _, HRl.out⟩
      have HD2 : Hid (Below W.heap.size W (setAll W2 P (rowPair y))) := setAll_below HbW2.out HPl.out _
      clear hold hkey hgr
      go_wp2_with fail
      go_meet
      exact ⟨HD, HD2⟩
  case rest =>
    obtain ⟨V, hV⟩ : ∃ V, V = wc := ⟨_, rfl⟩
    subst hV
    obtain ⟨HD, HbV⟩ := hcut
    have HFV : Hid (∀ W', Below V.heap.size V W' → Prs F W' (.slice ao n cap) l) := fun W' hb => HFn.out _ (HbV.out.trans (hb.mono HbV.out.size))
    have HVw : Hid (w.heap.size ≤ V.heap.size) := HD.out.bel.size
    have k0 := cell_n HD.out.cc 0 (v := .int .i64 c.kind) rfl
    have k1 := cell_n HD.out.cc 1 (v := str c.key) rfl
    have k2 := cell_n HD.out.cc 2 (v := str c.val) rfl
    have k3 := cell_n HD.out.cc 3 (v := .int .i64 c.iff) rfl
    have p1 := cell_n HD.out.pp 1 (v := str (oldK l c.key).val) rfl
    have p2 := cell_n HD.out.pp 2 (v := .int .i64 (oldK l c.key).ver) rfl
    obtain ⟨yv, hyv⟩ := hide (oldK l c.key).val
    obtain ⟨yr, hyr⟩ := hide (oldK l c.key).ver
    rw [hyv.out] at p1
    rw [hyr.out] at p2
    have t1 : (c.kind == 1) = false := by rw [Hkind.out]; rfl
    have t5 : (c.kind == 5) = false := by rw [Hkind.out]; rfl
    have t4 : (c.kind == 4) = false := by rw [Hkind.out]; rfl
    have t6 : (c.kind == 6) = false := by rw [Hkind.out]; rfl
    have t2 : (c.kind == 2) = true := by rw [Hkind.out]; rfl
    have hg : decide (gr < 0) = !q := by
      rw [Hgr.out]
      cases q
      · rfl
      · exact decide_eq_false (by rw [if_pos rfl]; omega)
    cases q
    · have Hd : Hid (doK l c = (l, ⟨2, [], 0, []⟩)) := by
        show _ = _
        unfold doK
        rw [if_neg (by rw [Hkind.out]; decide), if_neg (by rw [Hkind.out]; decide), if_neg (by rw [Hkind.out]; decide), if_neg (by rw [Hkind.out]; decide), if_pos hq.out]
      rw [Bool.not_false] at hg
      obtain ⟨HE0, HER⟩ := HD.out.fin (v := .slice ao n cap) (bv := (.slice ao n cap)) (kv := (.slice none 0 0)) (kd := 2) (val := []) (ver := 0) (Below.refl _ _) (HAP.out.trans Hd.out) (Or.inl ⟨rfl, rfl⟩) (World.ownsRow_nil _ _ _ _) (w' := (setAll V R (rowRes 2 [] 0 (.slice none 0 0)))) (Or.inl rfl)
      have HE : Hid (post (.returned (.tuple #[(.slice ao n cap), vResK 2 [] 0 (.slice none 0 0)])) (setAll V R (rowRes 2 [] 0 (.slice none 0 0)))) := by show post _ _; rw [← HP0.out]; exact HE0
      have HER := Lib.hid HER
      clear HE0
      obtain ⟨f0, f1, f2, f3⟩ := four_freeK (((Below.refl _ _) : Below V.heap.size V V).block _ (lt_of_block HD.out.rr) |>.trans HD.out.rr)
      obtain ⟨r0, r1, r2, r3⟩ := four_cellsK (((Below.refl _ _) : Below V.heap.size V V).block _ (lt_of_block HD.out.rr) |>.trans HD.out.rr)
      go_wp2_with fail
      all_goals
        change bodyPost _ _ _ Exit.ret _ (setAll V R (rowRes 2 [] 0 (.slice none 0 0)))
        generalize (setAll V R (rowRes 2 [] 0 (.slice none 0 0))) = W9 at HE HER ⊢
        clear r0 r1 r2 r3 f0 f1 f2 f3
        obtain ⟨r0, r1, r2, r3⟩ := four_cellsK HER.out
        refine bodyPost_ret (by simp [results, Tryd.results21, go_sem, r0, r1, r2, r3]; rfl) rfl ?_
        exact HE.out
    · have Hd : Hid (doK l c = (l, ⟨1, yv, yr, []⟩)) := by
        show _ = _
        unfold doK
        rw [if_neg (by rw [Hkind.out]; decide), if_neg (by rw [Hkind.out]; decide), if_neg (by rw [Hkind.out]; decide), if_neg (by rw [Hkind.out]; decide), if_neg (by rw [hq.out]; decide), if_neg (by rw [Hkind.out]; decide), hyv.out, hyr.out]
      rw [Bool.not_true] at hg
      obtain ⟨HE0, HER⟩ := HD.out.fin (v := .slice ao n cap) (bv := (.slice ao n cap)) (kv := (.slice none 0 0)) (kd := 1) (val := yv) (ver := yr) (Below.refl _ _) (HAP.out.trans Hd.out) (Or.inl ⟨rfl, rfl⟩) (World.ownsRow_nil _ _ _ _) (w' := (setAll V R (rowRes 1 yv yr (.slice none 0 0))).drew) (Or.inr rfl)
      have HE : Hid (post (.returned (.tuple #[(.slice ao n cap), vResK 1 yv yr (.slice none 0 0)])) (setAll V R (rowRes 1 yv yr (.slice none 0 0))).drew) := by show post _ _; rw [← HP0.out]; exact HE0
      have HER := Lib.hid HER
      clear HE0
      obtain ⟨f0, f1, f2, f3⟩ := four_freeK (((Below.refl _ _) : Below V.heap.size V V).block _ (lt_of_block HD.out.rr) |>.trans HD.out.rr)
      obtain ⟨r0, r1, r2, r3⟩ := four_cellsK (((Below.refl _ _) : Below V.heap.size V V).block _ (lt_of_block HD.out.rr) |>.trans HD.out.rr)
      go_upto_region 32 with fail
      go_region
      all_goals
        try go_wp2_with fail
        change bodyPost _ _ _ Exit.ret _ (setAll V R (rowRes 1 yv yr (.slice none 0 0))).drew
        generalize (setAll V R (rowRes 1 yv yr (.slice none 0 0))).drew = W9 at HE HER ⊢
        clear r0 r1 r2 r3 f0 f1 f2 f3
        obtain ⟨r0, r1, r2, r3⟩ := four_cellsK HER.out
        refine bodyPost_ret (by simp [results, Tryd.results21, go_sem, r0, r1, r2, r3]; rfl) rfl ?_
        exact HE.out
end Go.Proofs.YtnmlkoidmacinaaDoor
