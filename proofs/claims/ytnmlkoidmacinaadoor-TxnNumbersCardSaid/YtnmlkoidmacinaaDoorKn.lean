/-
  The reference's map: a key's value is put: no room.
-/
import Derived.Test.YtnmlkoidmacinaaDoorKm
import Derived.Test.YtnmlkoidmacinaaDoorKd
namespace Go.Proofs.YtnmlkoidmacinaaDoor
open Go.RowKit Wm Mm Dg Kv
set_option linter.unusedVariables false
set_option linter.unusedSimpArgs false

set_option maxHeartbeats 4000000 in
set_option maxRecDepth 100000 in
theorem refPut_full (key val : List UInt8) (v : Value) (l : List PairP) (F : Nat → Prop) (w : World) (h : Prs F w v l) (ho : OkPs l) (hf : fullK l key val = true) :
    Calls Tryd.prog 45 #[v, str key, str val] w fun e w' => e = .returned (.tuple #[v, vResK 4 [] 0 (.slice none 0 0)]) ∧ Below w.heap.size w w' := by
  obtain ⟨post, HP⟩ := hide (fun (e : Ending) (w' : World) => e = .returned (.tuple #[v, vResK 4 [] 0 (.slice none 0 0)]) ∧ Below w.heap.size w w')
  rw [HP.out]
  obtain ⟨ao, cap, rfl, hcap, hmax⟩ := h.slice
  obtain ⟨W, hW⟩ := hide (w.alloc (.cells zeroRes.toArray 56))
  obtain ⟨R, hR⟩ := hide w.heap.size
  have HbW : Hid (Below w.heap.size w W) := by show Below _ _ _; rw [← hW.out]; exact (Below.refl _ _).alloc (Nat.le_refl _) _
  have HRW : Hid (W.heap[R]? = some (.cells zeroRes.toArray 56 (0, 0))) := by show _ = _; rw [← hW.out, ← hR.out]; exact hp_at _ _ rfl
  have HF : Hid (Prs F W (.slice ao l.length cap) l) := h.frame (Plain.good _) (Agree.below HbW.out)
  have KG := Lib.hid (refGet_law key _ l F W HF.out ho)
  obtain ⟨q, hq⟩ := hide (isK l key)
  obtain ⟨k, hkq⟩ := hide (place l key)
  obtain ⟨n, hn⟩ := hide l.length
  have hn32 := ho.n
  have hcase : (64 < val.length) ∨ (val.length ≤ 64 ∧ q = false ∧ n = 32) ∨ (val.length ≤ 64 ∧ q = true ∧ ∃ h : k < l.length, l[k].ver = 1099511627775) := by
    unfold fullK at hf
    rw [hq.out] at hf
    by_cases h64 : 64 < val.length
    · exact Or.inl h64
    · cases q
      · simp [h64] at hf
        exact Or.inr (Or.inl ⟨by omega, rfl, by rw [← hn.out]; exact hf⟩)
      · simp [h64] at hf
        obtain ⟨h1, h2⟩ := isK_at hq.out
        refine Or.inr (Or.inr ⟨by omega, rfl, ?_⟩)
        unfold oldK at hf
        rw [hq.out, if_pos rfl, List.getD_eq_getElem?_getD, List.getElem?_eq_getElem h1] at hf
        rw [← hkq.out]
        exact ⟨h1, hf⟩
  have hgr : getR l key = if q then (k : Int) else -1 := by unfold getR; rw [hq.out, hkq.out]
  rw [hn.out, hgr] at KG
  have Hcase := Lib.hid hcase
  obtain ⟨r0, r1, r2, r3⟩ := four_cellsK HRW.out
  obtain ⟨f0, f1, f2, f3⟩ := four_freeK HRW.out
  have HE : Hid (post (.returned (.tuple #[.slice ao n cap, vResK 4 [] 0 (.slice none 0 0)])) (setAll W R (rowRes 4 [] 0 (.slice none 0 0)))) := by
    show post _ _
    rw [← HP.out, ← hn.out]
    exact ⟨rfl, setAll_below HbW.out (by rw [hR.out]; exact Nat.le_refl _) _⟩
  have HER : Hid ((setAll W R (rowRes 4 [] 0 (.slice none 0 0))).heap[R]? = some (.cells (rowRes 4 [] 0 (.slice none 0 0)).toArray 56 (0, 0))) := setAll_at (xs := zeroRes) HRW.out _ rfl
  rw [hn.out] at hcap hmax hn32
  have HFn : Hid (Prs F W (.slice ao n cap) l) := by rw [← hn.out]; exact HF.out
  rw [hn.out]
  clear h ho hf hcase hgr HF
  go_enter Tryd.func45, Tryd.ntmps45
  go_upto_region 1 with fail
  rw [hW.out, hR.out]
  go_wp2_with fail
  refine KG.out.mono ?_
  rintro e w1 ⟨rfl, rfl⟩
  dsimp only
  rcases Hcase.out with h64 | ⟨h64, hq2, hl⟩ | ⟨h64, hq2, hkl, hver⟩
  · have t1 : decide ((64 : Int) < (val.length : Int)) = true := decide_eq_true (by omega)
    clear h64 Hcase
    generalize (if q = true then (k : Int) else -1) = gr
    go_wp2_with fail
    change bodyPost _ _ _ Exit.ret _ (setAll W R (rowRes 4 [] 0 (.slice none 0 0)))
    generalize setAll W R (rowRes 4 [] 0 (.slice none 0 0)) = W9 at HE HER ⊢
    clear r0 r1 r2 r3 f0 f1 f2 f3
    obtain ⟨r0, r1, r2, r3⟩ := four_cellsK HER.out
    refine bodyPost_ret (by simp [results, Tryd.results45, go_sem, r0, r1, r2, r3]; rfl) rfl ?_
    exact HE.out
  · have t1 : decide ((64 : Int) < (val.length : Int)) = false := decide_eq_false (by omega)
    have t2 : ((n : Int) == 32) = true := by rw [hl]; rfl
    clear h64 Hcase hl
    obtain rfl : false = q := hq2.symm
    rw [if_neg (by decide)]
    go_wp2_with fail
    change bodyPost _ _ _ Exit.ret _ (setAll W R (rowRes 4 [] 0 (.slice none 0 0)))
    generalize setAll W R (rowRes 4 [] 0 (.slice none 0 0)) = W9 at HE HER ⊢
    clear r0 r1 r2 r3 f0 f1 f2 f3
    obtain ⟨r0, r1, r2, r3⟩ := four_cellsK HER.out
    refine bodyPost_ret (by simp [results, Tryd.results45, go_sem, r0, r1, r2, r3]; rfl) rfl ?_
    exact HE.out
  · have t1 : decide ((64 : Int) < (val.length : Int)) = false := decide_eq_false (by omega)
    obtain ⟨b, off, e1, g0, g1, g2⟩ := Sl.three HFn.out hkl
    subst e1
    have t2 : (l[k].ver == 1099511627775) = true := by rw [hver]; rfl
    obtain ⟨ve, hve⟩ := hide l[k].ver
    rw [hve.out] at g2 t2
    have hki : (k : Int) < (n : Int) := by rw [hn.out] at hkl; omega
    have t3 : decide ((k : Int) < 0) = false := decide_eq_false (by omega)
    have t4 : decide (0 ≤ (k : Int)) = true := decide_eq_true (by omega)
    clear h64 Hcase hver g0 g1
    obtain rfl : true = q := hq2.symm
    rw [if_pos rfl]
    go_wp2_with fail
    change bodyPost _ _ _ Exit.ret _ (setAll W R (rowRes 4 [] 0 (.slice none 0 0)))
    generalize setAll W R (rowRes 4 [] 0 (.slice none 0 0)) = W9 at HE HER ⊢
    clear r0 r1 r2 r3 f0 f1 f2 f3
    obtain ⟨r0, r1, r2, r3⟩ := four_cellsK HER.out
    refine bodyPost_ret (by simp [results, Tryd.results45, go_sem, r0, r1, r2, r3]; rfl) rfl ?_
    exact HE.out
end Go.Proofs.YtnmlkoidmacinaaDoor
