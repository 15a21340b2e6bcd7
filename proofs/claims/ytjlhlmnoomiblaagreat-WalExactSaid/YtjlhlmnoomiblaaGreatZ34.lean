/-
  What files say, read by the document: a record of the hard state on what is known (taken).
-/
import Derived.Test.YtjlhlmnoomiblaaGreatZ32
import Derived.Test.YtjlhlmnoomiblaaGreatZ26
namespace Go.Proofs.YtjlhlmnoomiblaaGreat
open Go.RowKit Wm Mm Lg Fl
set_option linter.unusedVariables false
set_option linter.unusedSimpArgs false

theorem got_hard (k : Kp) (r : List UInt8) (σ1 σ2 σ3 : St) (a1 a2 a3 : Nat) (h1 : stepS rdNum (.ok r) = σ1) (h2 : stepS rdNum σ1 = σ2) (h3 : stepS rdNum σ2 = σ3) (g1 : stepV 0 rdNum (.ok r) = a1) (g2 : stepV 0 rdNum σ1 = a2) (g3 : stepV 0 rdNum σ2 = a3) :
    recHard k r = if (endS σ3 == 0) = true ∧ k.t ≤ (a1 : Int) ∧ (a2 : Int) ≤ 9 then some { k with t := (a1 : Int), v := (a2 : Int), c := (a3 : Int) } else none := by
  subst h1 h2 h3 g1 g2 g3
  have hh := hard3 r
  unfold recHard
  by_cases hz : endS (stepS rdNum (stepS rdNum (stepS rdNum (.ok r)))) = 0
  · rw [hh.1 hz]
    have ez : (endS (stepS rdNum (stepS rdNum (stepS rdNum (.ok r)))) == 0) = true := by rw [hz]; rfl
    simp only [ez, true_and]
    by_cases hc : ((stepV 0 rdNum (.ok r) : Nat) : Int) < k.t ∨ 9 < stepV 0 rdNum (stepS rdNum (.ok r))
    · rw [if_pos hc, if_neg (by omega)]
    · rw [if_neg hc, if_pos (by omega)]
  · have ez : ¬ (endS (stepS rdNum (stepS rdNum (stepS rdNum (.ok r)))) == 0) = true := by simpa using hz
    rw [if_neg (fun h => ez h.1)]
    have h5 := hh.2 hz
    split
    · rename_i t v c he; exact absurd he (h5 _)
    · rfl
set_option maxHeartbeats 8000000 in
set_option maxRecDepth 100000 in
theorem taken_hard (k : Kp) (ev x y z cx cy cz : Value) (F : Nat → Prop) (w : World) (hE : Ents F w ev k.es) (hc : ConfG F w x y z k.sc) (hcf : ConfG F w cx cy cz k.cf) (s r : List UInt8) (hs : Body s 1 r) (hr : s.length ≤ 9223372036854775806) :
    Calls Tryz.prog 31 #[.agg (cellsK k ev x y z cx cy cz), str s] w (TakenPost F w (recHard k r)) := by
  obtain ⟨ao1, cp1, rfl, _⟩ := len_of_Ints hc.conf.v
  obtain ⟨ao2, cp2, rfl, _⟩ := len_of_Ints hc.conf.n
  obtain ⟨ao3, cp3, rfl, _⟩ := len_of_Ints hc.conf.l
  obtain ⟨ao4, cp4, rfl, _⟩ := len_of_Ints hcf.conf.v
  obtain ⟨ao5, cp5, rfl, _⟩ := len_of_Ints hcf.conf.n
  obtain ⟨ao6, cp6, rfl, _⟩ := len_of_Ints hcf.conf.l
  obtain ⟨ae, ce, rfl, _, _⟩ := hE.slice
  obtain ⟨W, hW⟩ := hide ((w.alloc (.cells #[.int .i64 k.t, .int .i64 k.v, .int .i64 k.c, .int .i64 k.base, .int .i64 k.bt, .slice ae k.es.length ce, .int .i64 k.si, .int .i64 k.st, .slice ao1 k.sc.v.length cp1, .slice ao2 k.sc.n.length cp2, .slice ao3 k.sc.l.length cp3, str k.sd, .slice ao4 k.cf.v.length cp4, .slice ao5 k.cf.n.length cp5, .slice ao6 k.cf.l.length cp6] 43)).alloc (.cells #[.int .i64 0, .int .i64 0, .int .i64 0, .int .i64 0, .int .i64 0, .slice none 0 0, .int .i64 0, .int .i64 0, .slice none 0 0, .slice none 0 0, .slice none 0 0, .string ⟨#[]⟩, .slice none 0 0, .slice none 0 0, .slice none 0 0] 43))
  have hz : W.heap.size = w.heap.size + 2 := by rw [← hW.out]; simp
  have hb : Below w.heap.size w W := by rw [← hW.out]; exact ((Below.refl _ _).alloc (Nat.le_refl _) _).alloc (by simp) _
  obtain ⟨P, hP⟩ := hide w.heap.size
  obtain ⟨R, hR⟩ := hide (w.heap.size + 1)
  have HR : Hid (W.heap[R]? = some (.cells zeroKept.toArray 43 (0, 0))) := by show _ = _; rw [← hW.out, ← hR.out]; exact hp_at _ _ (by simp)
  have HPk : Hid (W.heap[P]? = some (.cells (cellsK k (.slice ae k.es.length ce) (.slice ao1 k.sc.v.length cp1) (.slice ao2 k.sc.n.length cp2) (.slice ao3 k.sc.l.length cp3) (.slice ao4 k.cf.v.length cp4) (.slice ao5 k.cf.n.length cp5) (.slice ao6 k.cf.l.length cp6)) 43 (0, 0))) := by show _ = _; rw [← hW.out, ← hP.out]; exact (hp_past _ _ (by simp)).trans (hp_at _ _ rfl)
  have HbW : Hid (Below w.heap.size w W) := hb
  have Hsz : Hid (W.heap.size = w.heap.size + 2 ∧ P = w.heap.size ∧ R = w.heap.size + 1) := ⟨hz, hP.out.symm, hR.out.symm⟩
  have HE := Lib.hid hE
  have HC := Lib.hid hc
  have HCf := Lib.hid hcf
  clear hE hc hcf hb hz
  obtain ⟨hl, hd, t0, hb1⟩ := hs
  have t1 : ((s[0].toNat : Int) == 1) = true := by rw [hb1]; rfl
  have hl1 : 1 ≤ s.length := hl
  have hrl : r.length ≤ 9223372036854775806 := by rw [← hd, List.length_drop]; omega
  obtain ⟨V, hV⟩ := hide (W.alloc (.cells #[str r, .int .i64 0] 112))
  obtain ⟨Q, hQ⟩ := hide W.heap.size
  obtain ⟨U, hU⟩ := hide (V.alloc (.cells #[.int .i64 0, .int .i64 0, .int .i64 0] 23))
  obtain ⟨H, hH⟩ := hide V.heap.size
  have hVs : V.heap.size = W.heap.size + 1 := by rw [← hV.out]; simp
  have HQ : Hid (Q ≠ H ∧ P < Q ∧ R < Q ∧ P < H ∧ R < H ∧ P ≠ R ∧ w.heap.size ≤ P ∧ w.heap.size ≤ Q ∧ w.heap.size ≤ H) := by
    have h1 := Hsz.out
    have h2 := hQ.out
    have h3 := hH.out
    exact ⟨by omega, by omega, by omega, by omega, by omega, by omega, by omega, by omega, by omega⟩
  have hR0 : Rs V Q (.ok r) := by rw [← hV.out, ← hQ.out]; exact ⟨hp_at _ _ rfl, by omega⟩
  have HR0 : Hid (Rs U Q (.ok r)) := by show Rs _ _ _; rw [← hU.out]; exact hR0.kept (World.grownBy_alloc V _ none) (by simp)
  have HH0 : Hid (U.heap[H]? = some (.cells #[.int .i64 0, .int .i64 0, .int .i64 0] 23 (0, 0))) := by show _ = _; rw [← hU.out, ← hH.out]; exact hp_at _ _ rfl
  have hbU : Below W.heap.size W U := by
    rw [← hU.out, ← hV.out]
    exact ((Below.refl _ _).alloc (Nat.le_refl _) _).alloc (by simp) _
  have HbWU : Hid (Below w.heap.size w U) := HbW.out.trans (hbU.mono HbW.out.size)
  have HRU : Hid (U.heap[R]? = some (.cells zeroKept.toArray 43 (0, 0))) := (hbU.block R (lt_of_block HR.out)).trans HR.out
  have HPU : Hid (U.heap[P]? = some (.cells (cellsK k (.slice ae k.es.length ce) (.slice ao1 k.sc.v.length cp1) (.slice ao2 k.sc.n.length cp2) (.slice ao3 k.sc.l.length cp3) (.slice ao4 k.cf.v.length cp4) (.slice ao5 k.cf.n.length cp5) (.slice ao6 k.cf.l.length cp6)) 43 (0, 0))) := (hbU.block P (lt_of_block HPk.out)).trans HPk.out
  have HG := Lib.hid (got_hard k r)
  obtain ⟨o, ho⟩ := hide (recHard k r)
  rw [ho.out] at HG ⊢
  have N1 := Lib.hid (number_rs HR0.out)
  obtain ⟨a1, ha1⟩ := hide (stepV 0 rdNum (.ok r))
  obtain ⟨σ1, hσ1⟩ := hide (stepS rdNum (.ok r))
  rw [ha1.out, hσ1.out] at N1
  clear hb1 hrl hR0 hbU hVs
  go_enter Tryz.func31, Tryz.ntmps31
  go_upto_region 1 with fail
  rw [hW.out, hR.out, hP.out]
  go_upto_region 4 with fail
  rw [hV.out, hQ.out]
  go_upto_region 7 with fail
  rw [hU.out, hH.out]
  go_wp2_with fail
  refine N1.out.mono ?_
  rintro e w1 ⟨rfl, hr1, hg1⟩
  have HH1 : Hid (w1.heap[H]? = _) := (hg1.block H (lt_of_block HH0.out) (fun e => HQ.out.1 (by injection e with e; exact e.symm))).trans HH0.out
  have hc1 : Chg (fun b => b = Q ∨ b = H) U w1 := Chg.grown hg1 (fun b h => Or.inl (by injection h with h; exact h.symm))
  obtain ⟨X1, hX1⟩ := hide (w1.setCell ⟨H, 0, none⟩ (.int .i64 a1))
  have HR1 : Hid (Rs X1 Q σ1) := by show Rs _ _ _; rw [← hX1.out]; exact hr1.other' (a := ⟨H, 0, none⟩) (fun e => HQ.out.1 e.symm) _
  have HX1 : Hid (X1.heap[H]? = some (.cells #[.int .i64 a1, .int .i64 0, .int .i64 0] 23 (0, 0))) := by show _ = _; rw [← hX1.out]; exact at_set (xs := [.int .i64 0, .int .i64 0, .int .i64 0]) HH1.out _
  have HC1 : Hid (Chg (fun b => b = Q ∨ b = H) U X1) := by show Chg _ _ _; rw [← hX1.out]; exact hc1.trans (Chg.setCell w1 (Or.inr rfl) _)
  have N2 := Lib.hid (number_rs HR1.out)
  obtain ⟨a2, ha2⟩ := hide (stepV 0 rdNum σ1)
  obtain ⟨σ2, hσ2⟩ := hide (stepS rdNum σ1)
  rw [ha2.out, hσ2.out] at N2
  have c0 := cell_n HH1.out 0 (v := .int .i64 0) rfl
  have f0 := free_n HH1.out 0
  clear hr1 hg1 hc1 t1
  go_upto_region 8 with fail
  rw [hX1.out]
  clear c0 f0
  go_wp2_with fail
  refine N2.out.mono ?_
  rintro e w2 ⟨rfl, hr2, hg2⟩
  have HH2 : Hid (w2.heap[H]? = _) := (hg2.block H (lt_of_block HX1.out) (fun e => HQ.out.1 (by injection e with e; exact e.symm))).trans HX1.out
  have hc2 : Chg (fun b => b = Q ∨ b = H) X1 w2 := Chg.grown hg2 (fun b h => Or.inl (by injection h with h; exact h.symm))
  obtain ⟨X2, hX2⟩ := hide (w2.setCell ⟨H, 1, none⟩ (.int .i64 a2))
  have HR2 : Hid (Rs X2 Q σ2) := by show Rs _ _ _; rw [← hX2.out]; exact hr2.other' (a := ⟨H, 1, none⟩) (fun e => HQ.out.1 e.symm) _
  have HX2 : Hid (X2.heap[H]? = some (.cells #[.int .i64 a1, .int .i64 a2, .int .i64 0] 23 (0, 0))) := by show _ = _; rw [← hX2.out]; exact at_set (xs := [.int .i64 a1, .int .i64 0, .int .i64 0]) HH2.out _
  have HC2 : Hid (Chg (fun b => b = Q ∨ b = H) U X2) := by show Chg _ _ _; rw [← hX2.out]; exact HC1.out.trans (hc2.trans (Chg.setCell w2 (Or.inr rfl) _))
  have N3 := Lib.hid (number_rs HR2.out)
  obtain ⟨a3, ha3⟩ := hide (stepV 0 rdNum σ2)
  obtain ⟨σ3, hσ3⟩ := hide (stepS rdNum σ2)
  rw [ha3.out, hσ3.out] at N3
  have c0 := cell_n HH2.out 1 (v := .int .i64 0) rfl
  have f0 := free_n HH2.out 1
  clear hr2 hg2 hc2
  go_upto_region 9 with fail
  rw [hX2.out]
  clear c0 f0
  go_wp2_with fail
  refine N3.out.mono ?_
  rintro e w3 ⟨rfl, hr3, hg3⟩
  have HH3 : Hid (w3.heap[H]? = _) := (hg3.block H (lt_of_block HX2.out) (fun e => HQ.out.1 (by injection e with e; exact e.symm))).trans HX2.out
  have hc3 : Chg (fun b => b = Q ∨ b = H) X2 w3 := Chg.grown hg3 (fun b h => Or.inl (by injection h with h; exact h.symm))
  obtain ⟨X3, hX3⟩ := hide (w3.setCell ⟨H, 2, none⟩ (.int .i64 a3))
  have HR3 : Hid (Rs X3 Q σ3) := by show Rs _ _ _; rw [← hX3.out]; exact hr3.other' (a := ⟨H, 2, none⟩) (fun e => HQ.out.1 e.symm) _
  have HX3 : Hid (X3.heap[H]? = some (.cells #[.int .i64 a1, .int .i64 a2, .int .i64 a3] 23 (0, 0))) := by show _ = _; rw [← hX3.out]; exact at_set (xs := [.int .i64 a1, .int .i64 a2, .int .i64 0]) HH3.out _
  have HC3 : Hid (Chg (fun b => b = Q ∨ b = H) U X3) := by show Chg _ _ _; rw [← hX3.out]; exact HC2.out.trans (hc3.trans (Chg.setCell w3 (Or.inr rfl) _))
  have NE := Lib.hid (end_rs HR3.out)
  have hG := HG.out σ1 σ2 σ3 a1 a2 a3 hσ1.out hσ2.out hσ3.out ha1.out ha2.out ha3.out
  obtain ⟨zz, hzz⟩ := hide (endS σ3)
  rw [hzz.out] at NE hG
  have HG2 := Lib.hid hG
  have c0 := cell_n HH3.out 2 (v := .int .i64 0) rfl
  have f0 := free_n HH3.out 2
  clear hr3 hg3 hc3 hG
  go_upto_region 10 with fail
  rw [hX3.out]
  clear c0 f0
  go_wp2_with fail
  refine NE.out.mono ?_
  rintro e X ⟨rfl, hg4⟩
  have hc4 : Chg (fun b => b = Q ∨ b = H) X3 X := Chg.grown hg4 (fun b h => Or.inl (by injection h with h; exact h.symm))
  have hC4 := HC3.out.trans hc4
  have HHX : Hid (X.heap[H]? = some (.cells #[.int .i64 a1, .int .i64 a2, .int .i64 a3] 23 (0, 0))) := (hg4.block H (lt_of_block HX3.out) (fun e => HQ.out.1 (by injection e with e; exact e.symm))).trans HX3.out
  have HRX : Hid (X.heap[R]? = some (.cells zeroKept.toArray 43 (0, 0))) := hC4.at HRU.out (fun e => by have := HQ.out; rcases e with e | e <;> omega)
  have HPX : Hid (X.heap[P]? = some (.cells (cellsK k (.slice ae k.es.length ce) (.slice ao1 k.sc.v.length cp1) (.slice ao2 k.sc.n.length cp2) (.slice ao3 k.sc.l.length cp3) (.slice ao4 k.cf.v.length cp4) (.slice ao5 k.cf.n.length cp5) (.slice ao6 k.cf.l.length cp6)) 43 (0, 0))) := hC4.at HPU.out (fun e => by have := HQ.out; rcases e with e | e <;> omega)
  have HbWX : Hid (Below w.heap.size w X) := HbWU.out.trans (hC4.toBelow (fun g hg => by have := HQ.out; rcases hg with e | e <;> omega) HbWU.out.size)
  clear hg4 hc4 hC4
  obtain ⟨Y, hY⟩ := hide (setFrom X P 0 [.int .i64 a1, .int .i64 a2, .int .i64 a3])
  have hcY : Hid (Chg (fun b => b = P) X Y) := by show Chg _ _ _; rw [← hY.out]; exact chg_from P _ X 0
  have HPY : Hid (Y.heap[P]? = some (.cells (cellsK { k with t := (a1 : Int), v := (a2 : Int), c := (a3 : Int) } (.slice ae k.es.length ce) (.slice ao1 k.sc.v.length cp1) (.slice ao2 k.sc.n.length cp2) (.slice ao3 k.sc.l.length cp3) (.slice ao4 k.cf.v.length cp4) (.slice ao5 k.cf.n.length cp5) (.slice ao6 k.cf.l.length cp6)) 43 (0, 0))) := by
    show _ = _
    rw [← hY.out]
    exact from_at (vs := [.int .i64 a1, .int .i64 a2, .int .i64 a3]) (i := 0) HPX.out
  have HRY : Hid (Y.heap[R]? = some (.cells zeroKept.toArray 43 (0, 0))) := hcY.out.at HRX.out (fun e => HQ.out.2.2.2.2.2.1 e.symm)
  have HbWY : Hid (Below w.heap.size w Y) := HbWX.out.trans (hcY.out.toBelow (fun g hg => by have := HQ.out; omega) HbWX.out.size)
  have HPo : Hid (∀ q, ((zz == 0) = true ∧ k.t ≤ (a1 : Int) ∧ (a2 : Int) ≤ 9 ↔ q = true) → TakenPost F w o (.returned (.tuple #[.agg (cellsK { k with t := (a1 : Int), v := (a2 : Int), c := (a3 : Int) } (.slice ae k.es.length ce) (.slice ao1 k.sc.v.length cp1) (.slice ao2 k.sc.n.length cp2) (.slice ao3 k.sc.l.length cp3) (.slice ao4 k.cf.v.length cp4) (.slice ao5 k.cf.n.length cp5) (.slice ao6 k.cf.l.length cp6)), .bool q])) (setAll Y R (cellsK { k with t := (a1 : Int), v := (a2 : Int), c := (a3 : Int) } (.slice ae k.es.length ce) (.slice ao1 k.sc.v.length cp1) (.slice ao2 k.sc.n.length cp2) (.slice ao3 k.sc.l.length cp3) (.slice ao4 k.cf.v.length cp4) (.slice ao5 k.cf.n.length cp5) (.slice ao6 k.cf.l.length cp6)).toList)) := by
    show ∀ q, _ → _
    intro q hq
    have hs := Hsz.out
    have h1 : Below w.heap.size w (setAll Y R (cellsK { k with t := (a1 : Int), v := (a2 : Int), c := (a3 : Int) } (.slice ae k.es.length ce) (.slice ao1 k.sc.v.length cp1) (.slice ao2 k.sc.n.length cp2) (.slice ao3 k.sc.l.length cp3) (.slice ao4 k.cf.v.length cp4) (.slice ao5 k.cf.n.length cp5) (.slice ao6 k.cf.l.length cp6)).toList) := setAll_below HbWY.out (by omega) _
    rw [HG2.out]
    refine ⟨h1, { k with t := (a1 : Int), v := (a2 : Int), c := (a3 : Int) }, _, _, _, _, _, _, _, ?_, (HE.out.frame (Plain.good _) (Agree.below h1)).weak (Plain.good _) (fun _ h _ => Or.inl h), HC.out.fresh h1, HCf.out.fresh h1, ?_⟩
    · cases q with
      | true => rw [if_pos (hq.2 rfl)]; rfl
      | false => rw [if_neg (fun h => by have := hq.1 h; cases this)]; rfl
    · intro k2 h
      split at h
      · injection h
      · cases h
  have c0 := cell_n HHX.out 0 (v := .int .i64 a1) rfl
  have c1 := cell_n HHX.out 1 (v := .int .i64 a2) rfl
  have c2 := cell_n HHX.out 2 (v := .int .i64 a3) rfl
  have d0 := cell_n HPX.out 0 (v := .int .i64 k.t) rfl
  have f0 := free_n HPX.out 0
  have f1 := free_n HPX.out 1
  have f2 := free_n HPX.out 2
  have d1 := cell_n HPX.out 1 (v := .int .i64 k.v) rfl
  have d2 := cell_n HPX.out 2 (v := .int .i64 k.c) rfl
  by_cases hz : (zz == 0) = true
  · by_cases ht : k.t ≤ (a1 : Int)
    · have hTt : decide (k.t ≤ (a1 : Int)) = true := decide_eq_true ht
      by_cases hv : (a2 : Int) ≤ 9
      · have hTv : decide ((a2 : Int) ≤ 9) = true := decide_eq_true hv
        have Hpost := Lib.hid (HPo.out true ⟨fun _ => rfl, fun _ => ⟨hz, ht, hv⟩⟩)
        clear ht hv
        go_upto_region 13 with fail
        show Code.wp _ _ _ _ (setFrom X P 0 [.int .i64 a1, .int .i64 a2, .int .i64 a3])
        rw [hY.out]
        clear c0 c1 c2 d0 d1 d2 f0 f1 f2
        have h9 := setAll_at (HRY.out) (cellsK { k with t := (a1 : Int), v := (a2 : Int), c := (a3 : Int) } (.slice ae k.es.length ce) (.slice ao1 k.sc.v.length cp1) (.slice ao2 k.sc.n.length cp2) (.slice ao3 k.sc.l.length cp3) (.slice ao4 k.cf.v.length cp4) (.slice ao5 k.cf.n.length cp5) (.slice ao6 k.cf.l.length cp6)).toList rfl
        have H9 := Lib.hid h9
        have Hth : Hid (Y.there R 0 15) := there_ofW (HRY.out)
        have Hbl := Lib.hid (HPY.out)
        clear h9
        refine wp_region_lit ?_
        refine wpList_load_row rfl 43 (.tmp 2) rfl P rfl 43 (cellsK { k with t := (a1 : Int), v := (a2 : Int), c := (a3 : Int) } (.slice ae k.es.length ce) (.slice ao1 k.sc.v.length cp1) (.slice ao2 k.sc.n.length cp2) (.slice ao3 k.sc.l.length cp3) (.slice ao4 k.cf.v.length cp4) (.slice ao5 k.cf.n.length cp5) (.slice ao6 k.cf.l.length cp6)) (0, 0) _ Hbl.out Tryz.underlying43 rfl size_kept ?_
        iterate 3 go_step
        refine wpList_store_mid rfl 43 (.tmp 4) (.tmp 56) rfl R 0 (cellsK { k with t := (a1 : Int), v := (a2 : Int), c := (a3 : Int) } (.slice ae k.es.length ce) (.slice ao1 k.sc.v.length cp1) (.slice ao2 k.sc.n.length cp2) (.slice ao3 k.sc.l.length cp3) (.slice ao4 k.cf.v.length cp4) (.slice ao5 k.cf.n.length cp5) (.slice ao6 k.cf.l.length cp6)) rfl rfl Hth.out size_kept (by simp [Value.oneCell']) ?_
        rw [setCells_eqW]
        show wpList _ _ _ _ _ (setAll Y R (cellsK { k with t := (a1 : Int), v := (a2 : Int), c := (a3 : Int) } (.slice ae k.es.length ce) (.slice ao1 k.sc.v.length cp1) (.slice ao2 k.sc.n.length cp2) (.slice ao3 k.sc.l.length cp3) (.slice ao4 k.cf.v.length cp4) (.slice ao5 k.cf.n.length cp5) (.slice ao6 k.cf.l.length cp6)).toList)
        generalize setAll Y R (cellsK { k with t := (a1 : Int), v := (a2 : Int), c := (a3 : Int) } (.slice ae k.es.length ce) (.slice ao1 k.sc.v.length cp1) (.slice ao2 k.sc.n.length cp2) (.slice ao3 k.sc.l.length cp3) (.slice ao4 k.cf.v.length cp4) (.slice ao5 k.cf.n.length cp5) (.slice ao6 k.cf.l.length cp6)).toList = W9 at H9 Hpost ⊢
        go_wp2_with fail
        refine bodyPost_ret (results_cell_tmp rfl _ W9 R 43 (cellsK { k with t := (a1 : Int), v := (a2 : Int), c := (a3 : Int) } (.slice ae k.es.length ce) (.slice ao1 k.sc.v.length cp1) (.slice ao2 k.sc.n.length cp2) (.slice ao3 k.sc.l.length cp3) (.slice ao4 k.cf.v.length cp4) (.slice ao5 k.cf.n.length cp5) (.slice ao6 k.cf.l.length cp6)) (0, 0) _ rfl H9.out Tryz.underlying43 rfl size_kept) rfl ?_
        exact Hpost.out
      · have hTv : decide ((a2 : Int) ≤ 9) = false := decide_eq_false hv
        have Hpost := Lib.hid (HPo.out false ⟨fun h => absurd h.2.2 hv, fun h => by cases h⟩)
        clear ht hv
        go_upto_region 13 with fail
        show Code.wp _ _ _ _ (setFrom X P 0 [.int .i64 a1, .int .i64 a2, .int .i64 a3])
        rw [hY.out]
        clear c0 c1 c2 d0 d1 d2 f0 f1 f2
        have h9 := setAll_at (HRY.out) (cellsK { k with t := (a1 : Int), v := (a2 : Int), c := (a3 : Int) } (.slice ae k.es.length ce) (.slice ao1 k.sc.v.length cp1) (.slice ao2 k.sc.n.length cp2) (.slice ao3 k.sc.l.length cp3) (.slice ao4 k.cf.v.length cp4) (.slice ao5 k.cf.n.length cp5) (.slice ao6 k.cf.l.length cp6)).toList rfl
        have H9 := Lib.hid h9
        have Hth : Hid (Y.there R 0 15) := there_ofW (HRY.out)
        have Hbl := Lib.hid (HPY.out)
        clear h9
        refine wp_region_lit ?_
        refine wpList_load_row rfl 43 (.tmp 2) rfl P rfl 43 (cellsK { k with t := (a1 : Int), v := (a2 : Int), c := (a3 : Int) } (.slice ae k.es.length ce) (.slice ao1 k.sc.v.length cp1) (.slice ao2 k.sc.n.length cp2) (.slice ao3 k.sc.l.length cp3) (.slice ao4 k.cf.v.length cp4) (.slice ao5 k.cf.n.length cp5) (.slice ao6 k.cf.l.length cp6)) (0, 0) _ Hbl.out Tryz.underlying43 rfl size_kept ?_
        iterate 3 go_step
        refine wpList_store_mid rfl 43 (.tmp 4) (.tmp 56) rfl R 0 (cellsK { k with t := (a1 : Int), v := (a2 : Int), c := (a3 : Int) } (.slice ae k.es.length ce) (.slice ao1 k.sc.v.length cp1) (.slice ao2 k.sc.n.length cp2) (.slice ao3 k.sc.l.length cp3) (.slice ao4 k.cf.v.length cp4) (.slice ao5 k.cf.n.length cp5) (.slice ao6 k.cf.l.length cp6)) rfl rfl Hth.out size_kept (by simp [Value.oneCell']) ?_
        rw [setCells_eqW]
        show wpList _ _ _ _ _ (setAll Y R (cellsK { k with t := (a1 : Int), v := (a2 : Int), c := (a3 : Int) } (.slice ae k.es.length ce) (.slice ao1 k.sc.v.length cp1) (.slice ao2 k.sc.n.length cp2) (.slice ao3 k.sc.l.length cp3) (.slice ao4 k.cf.v.length cp4) (.slice ao5 k.cf.n.length cp5) (.slice ao6 k.cf.l.length cp6)).toList)
        generalize setAll Y R (cellsK { k with t := (a1 : Int), v := (a2 : Int), c := (a3 : Int) } (.slice ae k.es.length ce) (.slice ao1 k.sc.v.length cp1) (.slice ao2 k.sc.n.length cp2) (.slice ao3 k.sc.l.length cp3) (.slice ao4 k.cf.v.length cp4) (.slice ao5 k.cf.n.length cp5) (.slice ao6 k.cf.l.length cp6)).toList = W9 at H9 Hpost ⊢
        go_wp2_with fail
        refine bodyPost_ret (results_cell_tmp rfl _ W9 R 43 (cellsK { k with t := (a1 : Int), v := (a2 : Int), c := (a3 : Int) } (.slice ae k.es.length ce) (.slice ao1 k.sc.v.length cp1) (.slice ao2 k.sc.n.length cp2) (.slice ao3 k.sc.l.length cp3) (.slice ao4 k.cf.v.length cp4) (.slice ao5 k.cf.n.length cp5) (.slice ao6 k.cf.l.length cp6)) (0, 0) _ rfl H9.out Tryz.underlying43 rfl size_kept) rfl ?_
        exact Hpost.out
    · have hTt : decide (k.t ≤ (a1 : Int)) = false := decide_eq_false ht
      have Hpost := Lib.hid (HPo.out false ⟨fun h => absurd h.2.1 ht, fun h => by cases h⟩)
      clear ht
      go_upto_region 13 with fail
      show Code.wp _ _ _ _ (setFrom X P 0 [.int .i64 a1, .int .i64 a2, .int .i64 a3])
      rw [hY.out]
      clear c0 c1 c2 d0 d1 d2 f0 f1 f2
      have h9 := setAll_at (HRY.out) (cellsK { k with t := (a1 : Int), v := (a2 : Int), c := (a3 : Int) } (.slice ae k.es.length ce) (.slice ao1 k.sc.v.length cp1) (.slice ao2 k.sc.n.length cp2) (.slice ao3 k.sc.l.length cp3) (.slice ao4 k.cf.v.length cp4) (.slice ao5 k.cf.n.length cp5) (.slice ao6 k.cf.l.length cp6)).toList rfl
      have H9 := Lib.hid h9
      have Hth : Hid (Y.there R 0 15) := there_ofW (HRY.out)
      have Hbl := Lib.hid (HPY.out)
      clear h9
      refine wp_region_lit ?_
      refine wpList_load_row rfl 43 (.tmp 2) rfl P rfl 43 (cellsK { k with t := (a1 : Int), v := (a2 : Int), c := (a3 : Int) } (.slice ae k.es.length ce) (.slice ao1 k.sc.v.length cp1) (.slice ao2 k.sc.n.length cp2) (.slice ao3 k.sc.l.length cp3) (.slice ao4 k.cf.v.length cp4) (.slice ao5 k.cf.n.length cp5) (.slice ao6 k.cf.l.length cp6)) (0, 0) _ Hbl.out Tryz.underlying43 rfl size_kept ?_
      iterate 3 go_step
      refine wpList_store_mid rfl 43 (.tmp 4) (.tmp 56) rfl R 0 (cellsK { k with t := (a1 : Int), v := (a2 : Int), c := (a3 : Int) } (.slice ae k.es.length ce) (.slice ao1 k.sc.v.length cp1) (.slice ao2 k.sc.n.length cp2) (.slice ao3 k.sc.l.length cp3) (.slice ao4 k.cf.v.length cp4) (.slice ao5 k.cf.n.length cp5) (.slice ao6 k.cf.l.length cp6)) rfl rfl Hth.out size_kept (by simp [Value.oneCell']) ?_
      rw [setCells_eqW]
      show wpList _ _ _ _ _ (setAll Y R (cellsK { k with t := (a1 : Int), v := (a2 : Int), c := (a3 : Int) } (.slice ae k.es.length ce) (.slice ao1 k.sc.v.length cp1) (.slice ao2 k.sc.n.length cp2) (.slice ao3 k.sc.l.length cp3) (.slice ao4 k.cf.v.length cp4) (.slice ao5 k.cf.n.length cp5) (.slice ao6 k.cf.l.length cp6)).toList)
      generalize setAll Y R (cellsK { k with t := (a1 : Int), v := (a2 : Int), c := (a3 : Int) } (.slice ae k.es.length ce) (.slice ao1 k.sc.v.length cp1) (.slice ao2 k.sc.n.length cp2) (.slice ao3 k.sc.l.length cp3) (.slice ao4 k.cf.v.length cp4) (.slice ao5 k.cf.n.length cp5) (.slice ao6 k.cf.l.length cp6)).toList = W9 at H9 Hpost ⊢
      go_wp2_with fail
      refine bodyPost_ret (results_cell_tmp rfl _ W9 R 43 (cellsK { k with t := (a1 : Int), v := (a2 : Int), c := (a3 : Int) } (.slice ae k.es.length ce) (.slice ao1 k.sc.v.length cp1) (.slice ao2 k.sc.n.length cp2) (.slice ao3 k.sc.l.length cp3) (.slice ao4 k.cf.v.length cp4) (.slice ao5 k.cf.n.length cp5) (.slice ao6 k.cf.l.length cp6)) (0, 0) _ rfl H9.out Tryz.underlying43 rfl size_kept) rfl ?_
      exact Hpost.out
  · have Hpost := Lib.hid (HPo.out false ⟨fun h => absurd h.1 hz, fun h => by cases h⟩)
    have hz2 : (zz == 0) = false := by simpa using hz
    clear hz
    go_upto_region 13 with fail
    show Code.wp _ _ _ _ (setFrom X P 0 [.int .i64 a1, .int .i64 a2, .int .i64 a3])
    rw [hY.out]
    clear c0 c1 c2 d0 d1 d2 f0 f1 f2
    have h9 := setAll_at (HRY.out) (cellsK { k with t := (a1 : Int), v := (a2 : Int), c := (a3 : Int) } (.slice ae k.es.length ce) (.slice ao1 k.sc.v.length cp1) (.slice ao2 k.sc.n.length cp2) (.slice ao3 k.sc.l.length cp3) (.slice ao4 k.cf.v.length cp4) (.slice ao5 k.cf.n.length cp5) (.slice ao6 k.cf.l.length cp6)).toList rfl
    have H9 := Lib.hid h9
    have Hth : Hid (Y.there R 0 15) := there_ofW (HRY.out)
    have Hbl := Lib.hid (HPY.out)
    clear h9
    refine wp_region_lit ?_
    refine wpList_load_row rfl 43 (.tmp 2) rfl P rfl 43 (cellsK { k with t := (a1 : Int), v := (a2 : Int), c := (a3 : Int) } (.slice ae k.es.length ce) (.slice ao1 k.sc.v.length cp1) (.slice ao2 k.sc.n.length cp2) (.slice ao3 k.sc.l.length cp3) (.slice ao4 k.cf.v.length cp4) (.slice ao5 k.cf.n.length cp5) (.slice ao6 k.cf.l.length cp6)) (0, 0) _ Hbl.out Tryz.underlying43 rfl size_kept ?_
    iterate 3 go_step
    refine wpList_store_mid rfl 43 (.tmp 4) (.tmp 56) rfl R 0 (cellsK { k with t := (a1 : Int), v := (a2 : Int), c := (a3 : Int) } (.slice ae k.es.length ce) (.slice ao1 k.sc.v.length cp1) (.slice ao2 k.sc.n.length cp2) (.slice ao3 k.sc.l.length cp3) (.slice ao4 k.cf.v.length cp4) (.slice ao5 k.cf.n.length cp5) (.slice ao6 k.cf.l.length cp6)) rfl rfl Hth.out size_kept (by simp [Value.oneCell']) ?_
    rw [setCells_eqW]
    show wpList _ _ _ _ _ (setAll Y R (cellsK { k with t := (a1 : Int), v := (a2 : Int), c := (a3 : Int) } (.slice ae k.es.length ce) (.slice ao1 k.sc.v.length cp1) (.slice ao2 k.sc.n.length cp2) (.slice ao3 k.sc.l.length cp3) (.slice ao4 k.cf.v.length cp4) (.slice ao5 k.cf.n.length cp5) (.slice ao6 k.cf.l.length cp6)).toList)
    generalize setAll Y R (cellsK { k with t := (a1 : Int), v := (a2 : Int), c := (a3 : Int) } (.slice ae k.es.length ce) (.slice ao1 k.sc.v.length cp1) (.slice ao2 k.sc.n.length cp2) (.slice ao3 k.sc.l.length cp3) (.slice ao4 k.cf.v.length cp4) (.slice ao5 k.cf.n.length cp5) (.slice ao6 k.cf.l.length cp6)).toList = W9 at H9 Hpost ⊢
    go_wp2_with fail
    refine bodyPost_ret (results_cell_tmp rfl _ W9 R 43 (cellsK { k with t := (a1 : Int), v := (a2 : Int), c := (a3 : Int) } (.slice ae k.es.length ce) (.slice ao1 k.sc.v.length cp1) (.slice ao2 k.sc.n.length cp2) (.slice ao3 k.sc.l.length cp3) (.slice ao4 k.cf.v.length cp4) (.slice ao5 k.cf.n.length cp5) (.slice ao6 k.cf.l.length cp6)) (0, 0) _ rfl H9.out Tryz.underlying43 rfl size_kept) rfl ?_
    exact Hpost.out
end Go.Proofs.YtjlhlmnoomiblaaGreat
