/-
  The map's state: what any command does; kv.Apply.
-/
import Derived.Test.YtnmlkoidmacinaaDoorKo
namespace Go.Proofs.YtnmlkoidmacinaaDoor
open Go.RowKit Wm Mm Dg Kv
set_option linter.unusedVariables false
set_option linter.unusedSimpArgs false

theorem cmd_parts {kind : Int} {key val : List UInt8} {iff : Int} (h : isCommand kind key val iff = true) : (1 ≤ kind ∧ kind ≤ 6) ∧ val.length ≤ 64 ∧ 0 ≤ iff := by
  unfold isCommand inB at h
  simp only [Bool.and_eq_true, decide_eq_true_eq] at h
  exact ⟨h.1.1.1.1, h.1.1.2, h.1.2.1⟩
theorem do_law (S B : Nat) (c : CmdP) (v : Value) (l : List PairP) (w : World) (hB : w.heap[B]? = some (.cells #[v] 80 (0, 0))) (ho : OwnP S w v l) (hk : OkPs l) (hS : S ≤ w.heap.size) (hc : isCommand c.kind c.key c.val c.iff = true) :
    Calls Tryd.prog 39 #[.pointer (some ⟨B, 0, none⟩), vCmd c.kind c.key c.val c.iff] w fun e w' => ∃ v' kv, e = .returned (vResK (doK l c).2.kind (doK l c).2.val (doK l c).2.ver kv) ∧ w'.heap[B]? = some (.cells #[v'] 80 (0, 0)) ∧ OwnP S w' v' (doK l c).1 ∧ w'.ownsRow w.heap.size 9 1 kv (doK l c).2.keys.length ((doK l c).2.keys.flatMap rowText) ∧ Chg (Zone B v) w w' ∧ (∀ g, v'.ownBlock = some g → v.ownBlock = some g ∨ w.heap.size ≤ g) := by
  obtain ⟨⟨h1, h2⟩, h3, h4⟩ := cmd_parts hc
  have h : c.kind = 1 ∨ c.kind = 2 ∨ c.kind = 3 ∨ c.kind = 4 ∨ c.kind = 5 ∨ c.kind = 6 := by omega
  rcases h with h | h | h | h | h | h
  · exact do_put S B c v l w hB ho hk hS h
  · exact do_get S B c v l w hB ho hk hS h
  · exact do_delete S B c v l w hB ho hk hS h
  · exact do_swap S B c v l w hB ho hk hS h
  · exact do_append S B c v l w hB ho hk hS h h3
  · exact do_list S B c v l w hB ho hk hS h h4

/-- what kv.Apply leaves -/
def ApplyPost (w : World) (l : List PairP) (c : CmdP) (e : Ending) (w' : World) : Prop :=
  ∃ av kv, e = .returned (.tuple #[av, vResK (applyK l c).2.kind (applyK l c).2.val (applyK l c).2.ver kv]) ∧ OwnP w.heap.size w' av (applyK l c).1 ∧ w'.ownsRow w.heap.size 9 1 kv (applyK l c).2.keys.length ((applyK l c).2.keys.flatMap rowText) ∧ Below w.heap.size w w'

set_option maxHeartbeats 4000000 in
set_option maxRecDepth 100000 in
theorem apply_law (c : CmdP) (v : Value) (l : List PairP) (F : Nat → Prop) (w : World) (h : Prs F w v l) (hn : l.length ≤ 3518437208800) :
    Calls Tryd.prog 17 #[v, vCmd c.kind c.key c.val c.iff] w (ApplyPost w l c) := by
  obtain ⟨post, HP⟩ := hide (ApplyPost w l c)
  rw [HP.out]
  obtain ⟨ao, cap, rfl, hcap, hmax⟩ := h.slice
  obtain ⟨C, hC⟩ := hide w.heap.size
  obtain ⟨W, hW⟩ := hide ((w.alloc (.cells (rowCmd c).toArray 37)).alloc (.cells zeroRes.toArray 56))
  have HbW : Hid (Below w.heap.size w W) := by show Below _ _ _; rw [← hW.out]; exact ((Below.refl _ _).alloc (Nat.le_refl _) _).alloc (by simp) _
  have HCW : Hid (W.heap[C]? = some (.cells (rowCmd c).toArray 37 (0, 0))) := by show _ = _; rw [← hW.out, ← hC.out]; exact (hp_past _ _ (by simp)).trans (hp_at _ _ rfl)
  have HRW : Hid (W.heap[C + 1]? = some (.cells zeroRes.toArray 56 (0, 0))) := by show _ = _; rw [← hW.out, ← hC.out]; exact hp_at _ _ (by simp)
  have HCl : Hid (w.heap.size ≤ C) := by show _ ≤ _; rw [hC.out]; exact Nat.le_refl _
  have HF : Hid (∀ W', Below W.heap.size W W' → Prs F W' (.slice ao l.length cap) l) := fun W' hb => h.frame (Plain.good _) ((Agree.below HbW.out).trans (Agree.below hb))
  have KC := Lib.hid (clone_pairs _ l F W (HF.out _ (Below.refl _ _)) hn)
  obtain ⟨ic, hic⟩ := hide (isCommand c.kind c.key c.val c.iff)
  obtain ⟨ip, hip⟩ := hide (pairsB l)
  have Hn := Lib.hid hn
  clear h hn hcap hmax
  go_enter Tryd.func17, Tryd.ntmps17
  go_upto_region 1 with fail
  rw [hW.out]
  try rw [hC.out]
  go_wp2_with fail
  refine KC.out.mono ?_
  rintro e W1 ⟨v1, rfl, ho1, hb1⟩
  obtain ⟨a1, c1, rfl⟩ := owns_slice ho1
  dsimp only
  obtain ⟨W2, hW2⟩ := hide (W1.alloc (.cells #[.slice a1 l.length c1] 80))
  obtain ⟨B, hB⟩ := hide W1.heap.size
  have Hb2 : Hid (Below W.heap.size W W2) := by show Below _ _ _; rw [← hW2.out]; exact hb1.alloc hb1.size _
  have HB2 : Hid (W2.heap[B]? = some (.cells #[.slice a1 l.length c1] 80 (0, 0))) := by show _ = _; rw [← hW2.out, ← hB.out]; exact hp_at _ _ rfl
  have HO2 : Hid (OwnP W.heap.size W2 (.slice a1 l.length c1) l) := by show World.ownsRow _ _ _ _ _ _ _; rw [← hW2.out]; exact ho1.alloc _
  have HWB : Hid (W.heap.size ≤ B) := by show _ ≤ _; rw [← hB.out]; exact hb1.size
  have HB2lt : Hid (B < W2.heap.size) := lt_of_block HB2.out
  clear ho1 hb1
  go_upto_region 2 with fail
  rw [hW2.out, hB.out]
  have HCb : Hid (∀ W', Below W2.heap.size W2 W' → W'.heap[C]? = some (.cells (rowCmd c).toArray 37 (0, 0))) := fun W' hb => by rw [hb.block _ (Nat.lt_of_lt_of_le (lt_of_block HCW.out) Hb2.out.size), Hb2.out.block _ (lt_of_block HCW.out)]; exact HCW.out
  have HRb : Hid (∀ W', Below W2.heap.size W2 W' → W'.heap[C + 1]? = some (.cells zeroRes.toArray 56 (0, 0))) := fun W' hb => by rw [hb.block _ (Nat.lt_of_lt_of_le (lt_of_block HRW.out) Hb2.out.size), Hb2.out.block _ (lt_of_block HRW.out)]; exact HRW.out
  obtain ⟨k0, k1, k2, k3⟩ := four_cellsK (HCb.out _ (Below.refl _ _))
  have KI := Lib.hid (wire_isCommand c.kind c.key c.val c.iff W2)
  rw [hic.out] at KI
  go_cut [19] from 12 to 19 (fun s wx => s = .bool (!(ic && ip)) ∧ Hid (Below W2.heap.size W2 wx))
  case first =>
    go_wp2_with fail
    refine KI.out.mono ?_
    rintro e W3 ⟨rfl, hw3⟩
    have Hb3 : Hid (Below W2.heap.size W2 W3) := by show Below _ _ _; rw [← hw3]; exact (Below.refl _ _).alloc (Nat.le_refl _) _
    have KV := Lib.hid (valid_law _ l F W3 (HF.out _ (Hb2.out.trans (Hb3.out.mono Hb2.out.size))))
    rw [hip.out] at KV
    clear hw3 k0 k1 k2 k3
    dsimp only
    cases ic
    · go_wp2_with fail
      go_meet
      exact ⟨rfl, Hb3⟩
    · go_wp2_with fail
      refine KV.out.mono ?_
      rintro e W4 ⟨rfl, hb4⟩
      have Hb4 : Hid (Below W2.heap.size W2 W4) := Hb3.out.trans (hb4.mono Hb3.out.size)
      clear hb4
      dsimp only
      cases ip
      · go_wp2_with fail
        go_meet
        exact ⟨rfl, Hb4⟩
      · go_wp2_with fail
        go_meet
        exact ⟨rfl, Hb4⟩
  case rest =>
    clear k0 k1 k2 k3
    obtain ⟨V, hV⟩ : ∃ V, V = wc := ⟨_, rfl⟩
    subst hV
    obtain ⟨rfl, hbV⟩ := hcut
    have HbV : Hid (Below w.heap.size w V) := HbW.out.trans ((Hb2.out.trans (hbV.out.mono Hb2.out.size)).mono HbW.out.size)
    have HBV : Hid (V.heap[B]? = some (.cells #[.slice a1 l.length c1] 80 (0, 0))) := (hbV.out.block _ HB2lt.out).trans HB2.out
    have HOV : Hid (OwnP W.heap.size V (.slice a1 l.length c1) l) := own_below HO2.out hbV.out
    have HCV := Lib.hid (HCb.out _ hbV.out)
    have HRV := Lib.hid (HRb.out _ hbV.out)
    have HWw : Hid (w.heap.size ≤ W.heap.size) := HbW.out.size
    have HCRB : Hid (C + 1 < B) := by show _ < _; have h1 := lt_of_block HRW.out; have := HWB.out; omega
    cases hok : ic && ip
    · have Hok := Lib.hid hok
      clear hok
      have happ : applyK l c = (l, ⟨5, [], 0, []⟩) := by unfold applyK; rw [hic.out, hip.out, Hok.out]; rfl
      have HE : Hid (post (.returned (.tuple #[.slice a1 l.length c1, vResK 5 [] 0 (.slice none 0 0)])) (setAll V (C + 1) (rowRes 5 [] 0 (.slice none 0 0)))) := by
        show post _ _
        rw [← HP.out]
        unfold ApplyPost
        rw [happ]
        refine ⟨_, _, rfl, own_chg (own_base HOV.out HWw.out) (setFrom_chg (C + 1) (rowRes 5 [] 0 (.slice none 0 0)) V 0) (fun g h1 h2 => ?_), World.ownsRow_nil _ _ _ _, setAll_below HbV.out (by have := HCl.out; omega) _⟩
        have e' : g = C + 1 := h2
        exact own_blk_ne HOV.out HRV.out (by decide) (by rw [← e']; exact h1)
      have HER : Hid ((setAll V (C + 1) (rowRes 5 [] 0 (.slice none 0 0))).heap[C + 1]? = some (.cells (rowRes 5 [] 0 (.slice none 0 0)).toArray 56 (0, 0))) := setAll_at (xs := zeroRes) HRV.out _ rfl
      obtain ⟨n, hn⟩ := hide l.length
      rw [hn.out] at HBV HE
      have c0 := cell_n HBV.out 0 (v := .slice a1 n c1) rfl
      obtain ⟨r0, r1, r2, r3⟩ := four_cellsK HRV.out
      obtain ⟨f0, f1, f2, f3⟩ := four_freeK HRV.out
      clear happ
      rw [Bool.not_false]
      go_wp2_with fail
      change bodyPost _ _ _ Exit.ret _ (setAll V (C + 1) (rowRes 5 [] 0 (.slice none 0 0)))
      generalize setAll V (C + 1) (rowRes 5 [] 0 (.slice none 0 0)) = W9 at HE HER ⊢
      clear r0 r1 r2 r3 f0 f1 f2 f3 c0
      obtain ⟨r0, r1, r2, r3⟩ := four_cellsK HER.out
      refine bodyPost_ret (by simp [results, Tryd.results17, go_sem, r0, r1, r2, r3]; rfl) rfl ?_
      exact HE.out
    · rw [Bool.not_true]
      rw [Bool.and_eq_true] at hok
      have Hok := Lib.hid hok
      clear hok
      have happ : applyK l c = doK l c := by unfold applyK; rw [hic.out, hip.out, Hok.out.1, Hok.out.2]; rfl
      have Hps : Hid (OkPs l) := pairsB_ok (by rw [hip.out]; exact Hok.out.2)
      have KD := Lib.hid (do_law W.heap.size B c _ l V HBV.out HOV.out Hps.out (by have h1 := Hb2.out.size; have h2 := hbV.out.size; omega) (by rw [hic.out]; exact Hok.out.1))
      have Happ := Lib.hid happ
      clear happ
      obtain ⟨k0, k1, k2, k3⟩ := four_cellsK HCV.out
      go_wp2_with fail
      refine KD.out.mono ?_
      rintro e V2 ⟨v', kv, rfl, hb', ho', hks, hc', hg'⟩
      obtain ⟨xs, hxs⟩ := hide (doK l c)
      rw [hxs.out] at ho' hks Happ
      rw [hxs.out]
      obtain ⟨l2, kd, vl, vr, ks⟩ := xs
      dsimp only at ho' hks Happ ⊢
      obtain ⟨a2, c2, rfl⟩ := owns_slice ho'
      obtain ⟨ka, kc, rfl⟩ := owns_slice hks
      obtain ⟨V3, hV3⟩ := hide (V2.alloc (.cells (rowRes kd vl vr (.slice ka ks.length kc)).toArray 56))
      obtain ⟨T, hT⟩ := hide V2.heap.size
      have HR2 : Hid (V2.heap[C + 1]? = some (.cells zeroRes.toArray 56 (0, 0))) := hc'.at HRV.out (fun e => by
        rcases e with e | e
        · have := HCRB.out; omega
        · exact own_blk_ne HOV.out HRV.out (by decide) e)
      have Hb2' : Hid (Below w.heap.size w V2) := HbV.out.trans (hc'.toBelow (fun j hj => by
        rcases hj with rfl | hj
        · have h1 := HWB.out; have h2 := HWw.out; omega
        · have h1 := (HOV.out.lt j hj).1; have h2 := HWw.out; omega) HbV.out.size)
      have HB3 : Hid (V3.heap[B]? = some (.cells #[.slice a2 l2.length c2] 80 (0, 0))) := by show _ = _; rw [← hV3.out, hp_past _ _ (by have := lt_of_block hb'; omega)]; exact hb'
      have HT3 : Hid (V3.heap[T]? = some (.cells (rowRes kd vl vr (.slice ka ks.length kc)).toArray 56 (0, 0))) := by show _ = _; rw [← hV3.out, ← hT.out]; exact hp_at _ _ rfl
      have HR3 : Hid (V3.heap[C + 1]? = some (.cells zeroRes.toArray 56 (0, 0))) := by show _ = _; rw [← hV3.out, hp_past _ _ (by have := lt_of_block HR2.out; omega)]; exact HR2.out
      have HE : Hid (post (.returned (.tuple #[.slice a2 l2.length c2, vResK kd vl vr (.slice ka ks.length kc)])) (setAll V3 (C + 1) (rowRes kd vl vr (.slice ka ks.length kc))).drew) := by
        show post _ _
        rw [← HP.out]
        unfold ApplyPost
        rw [Happ.out]
        have hcR := setFrom_chg (C + 1) (rowRes kd vl vr (.slice ka ks.length kc)) V3 0
        have ho3 : OwnP W.heap.size V3 (.slice a2 l2.length c2) l2 := by rw [← hV3.out]; exact ho'.alloc _
        have hk3 : V3.ownsRow V.heap.size 9 1 (.slice ka ks.length kc) ks.length (ks.flatMap rowText) := by rw [← hV3.out]; exact hks.alloc _
        refine ⟨_, _, rfl, World.ownsRow.drew (own_chg (own_base ho3 HWw.out) hcR (fun g h1 h2 => ?_)), World.ownsRow.drew (own_chg (own_base hk3 HbV.out.size) hcR (fun g h1 h2 => ?_)), (setAll_below ?_ (by have := HCl.out; omega) _).drew⟩
        · have e' : g = C + 1 := h2
          exact own_blk_ne ho3 HR3.out (by decide) (by rw [← e']; exact h1)
        · have e' : g = C + 1 := h2
          exact own_blk_ne hk3 HR3.out (by decide) (by rw [← e']; exact h1)
        · rw [← hV3.out]
          exact Hb2'.out.alloc Hb2'.out.size _
      have HER : Hid ((setAll V3 (C + 1) (rowRes kd vl vr (.slice ka ks.length kc))).drew.heap[C + 1]? = some (.cells (rowRes kd vl vr (.slice ka ks.length kc)).toArray 56 (0, 0))) := setAll_at (xs := zeroRes) HR3.out _ rfl
      clear hb' ho' hks hc' hg' k0 k1 k2 k3
      obtain ⟨n2, hn2⟩ := hide l2.length
      obtain ⟨m2, hm2⟩ := hide ks.length
      rw [hn2.out] at HB3 HE
      rw [hm2.out] at HT3 HE HER hV3
      rw [hm2.out]
      go_upto_region 5 with fail
      rw [hV3.out, hT.out]
      have c0 := cell_n HB3.out 0 (v := .slice a2 n2 c2) rfl
      obtain ⟨q0, q1, q2, q3⟩ := four_cellsK HT3.out
      obtain ⟨r0, r1, r2, r3⟩ := four_cellsK HR3.out
      obtain ⟨f0, f1, f2, f3⟩ := four_freeK HR3.out
      go_region
      all_goals
        try go_wp2_with fail
        change bodyPost _ _ _ Exit.ret _ (setAll V3 (C + 1) (rowRes kd vl vr (.slice ka m2 kc))).drew
        generalize (setAll V3 (C + 1) (rowRes kd vl vr (.slice ka m2 kc))).drew = W9 at HE HER ⊢
        clear r0 r1 r2 r3 f0 f1 f2 f3 c0 q0 q1 q2 q3
        obtain ⟨r0, r1, r2, r3⟩ := four_cellsK HER.out
        refine bodyPost_ret (by simp [results, Tryd.results17, go_sem, r0, r1, r2, r3]; rfl) rfl ?_
        exact HE.out
end Go.Proofs.YtnmlkoidmacinaaDoor
