/-
  What files say, read by the document: a record of an entry on what is known (taken).
-/
import Derived.Test.YtjlhlmnoomiblaaGreatZ32
import Derived.Test.YtjlhlmnoomiblaaGreatZ35
import Derived.Test.YtjlhlmnoomiblaaGreatZ25
import Derived.Test.YtjlhlmnoomiblaaGreatZ03
import Derived.Test.YtjlhlmnoomiblaaGreatZ01
namespace Go.Proofs.YtjlhlmnoomiblaaGreat
open Go.RowKit Wm Mm Lg Fl
set_option linter.unusedVariables false
set_option linter.unusedSimpArgs false

theorem got_ent1 (k : Kp) (r : List UInt8) (w : World) (e : Ending) (w' : World) (h : GotEnt w (full (rdEnt r)) e w') :
    ∃ (ii ti qi : Int) (dd : List UInt8) (zz : Int), e = .returned (.tuple #[vEnt ii ti qi dd, .int .i64 zz]) ∧ Below w.heap.size w w' ∧ ((zz == 0) = false → recEnt k r = none) ∧ ((zz == 0) = true → 0 ≤ ii ∧ recEnt k r = if ii ≤ k.base ∨ endK k + 1 < ii then none
    else if logB k.base k.bt (k.es.take (ii - k.base - 1).toNat ++ [⟨ii, ti, qi, dd⟩]) = true then some { k with es := k.es.take (ii - k.base - 1).toNat ++ [⟨ii, ti, qi, dd⟩] } else none) := by
  cases hh : full (rdEnt r) with
  | error zz =>
    rw [hh] at h
    obtain ⟨rfl, hb⟩ := h
    have hn : recEnt k r = none := by rw [recEnt, hh]
    have hz : zz ≠ 0 := rdEnt_err0 hh
    exact ⟨0, 0, 0, [], zz, rfl, hb, fun _ => hn, fun h => absurd (eq_of_beq h) hz⟩
  | ok q =>
    rw [hh] at h
    obtain ⟨rfl, hb⟩ := h
    exact ⟨q.index, q.term, q.kind, q.data, 0, rfl, hb, (fun h => by cases h), fun _ => ⟨by omega, by rw [recEnt, hh]; rfl⟩⟩
set_option maxHeartbeats 8000000 in
set_option maxRecDepth 100000 in
theorem taken_ent (k : Kp) (ev x y z cx cy cz : Value) (F : Nat → Prop) (w : World) (hE : Ents F w ev k.es) (hc : ConfG F w x y z k.sc) (hcf : ConfG F w cx cy cz k.cf) (s r : List UInt8) (hs : Body s 2 r) (hr : s.length ≤ 9223372036854775806) (hi : InvK k) :
    Calls Tryz.prog 31 #[.agg (cellsK k ev x y z cx cy cz), str s] w (TakenPost F w (recEnt k r)) := by
  obtain ⟨ao1, cp1, rfl, _⟩ := len_of_Ints hc.conf.v
  obtain ⟨ao2, cp2, rfl, _⟩ := len_of_Ints hc.conf.n
  obtain ⟨ao3, cp3, rfl, _⟩ := len_of_Ints hc.conf.l
  obtain ⟨ao4, cp4, rfl, _⟩ := len_of_Ints hcf.conf.v
  obtain ⟨ao5, cp5, rfl, _⟩ := len_of_Ints hcf.conf.n
  obtain ⟨ao6, cp6, rfl, _⟩ := len_of_Ints hcf.conf.l
  obtain ⟨ae, ce, rfl, _, _⟩ := hE.slice
  obtain ⟨W, hW⟩ := hide ((w.alloc (.cells #[.int .i64 k.t, .int .i64 k.v, .int .i64 k.c, .int .i64 k.base, .int .i64 k.bt, .slice ae k.es.length ce, .int .i64 k.si, .int .i64 k.st, .slice ao1 k.sc.v.length cp1, .slice ao2 k.sc.n.length cp2, .slice ao3 k.sc.l.length cp3, str k.sd, .slice ao4 k.cf.v.length cp4, .slice ao5 k.cf.n.length cp5, .slice ao6 k.cf.l.length cp6] 43)).alloc (.cells #[.int .i64 0, .int .i64 0, .int .i64 0, .int .i64 0, .int .i64 0, .slice none 0 0, .int .i64 0, .int .i64 0, .slice none 0 0, .slice none 0 0, .slice none 0 0, .string ⟨#[]⟩, .slice none 0 0, .slice none 0 0, .slice none 0 0] 43))
  have hz : W.heap.size = w.heap.size + 2 := by rw [← hW.out]; simp
  have hb : Below w.heap.size w W := by rw [← hW.out]; exact ((Below.refl _ _).alloc (Nat.le_refl _) _).alloc (by simp) _
  obtain ⟨P, hP⟩ := hide w.heap.size
  obtain ⟨R, hR⟩ := hide (w.heap.size + 1)
  have HR : Hid (W.heap[R]? = some (.cells zeroKept.toArray 43 (0, 0))) := by show _ = _; rw [← hW.out, ← hR.out]; exact hp_at _ _ (by simp)
  have HPk : Hid (W.heap[P]? = some (.cells (cellsK k (.slice ae k.es.length ce) (.slice ao1 k.sc.v.length cp1) (.slice ao2 k.sc.n.length cp2) (.slice ao3 k.sc.l.length cp3) (.slice ao4 k.cf.v.length cp4) (.slice ao5 k.cf.n.length cp5) (.slice ao6 k.cf.l.length cp6)) 43 (0, 0))) := by show _ = _; rw [← hW.out, ← hP.out]; exact (hp_past _ _ (by simp)).trans (hp_at _ _ rfl)
  have HbW : Hid (Below w.heap.size w W) := hb
  have Hsz : Hid (W.heap.size = w.heap.size + 2 ∧ P = w.heap.size ∧ R = w.heap.size + 1) := ⟨hz, hP.out.symm, hR.out.symm⟩
  have HE := Lib.hid hE
  have HC := Lib.hid hc
  have HCf := Lib.hid hcf
  clear hE hc hcf hb hz
  obtain ⟨hl, hd, t0, hb1⟩ := hs
  have t1 : ((s[0].toNat : Int) == 1) = false := by rw [hb1]; rfl
  have t2 : ((s[0].toNat : Int) == 2) = true := by rw [hb1]; rfl
  have hl1 : 1 ≤ s.length := hl
  have hrl : r.length ≤ 9223372036854775806 := by rw [← hd, List.length_drop]; omega
  obtain ⟨V, hV⟩ := hide (W.alloc (.cells #[str r, .int .i64 0] 112))
  have hbV : Hid (Below W.heap.size W V) := by show Below _ _ _; rw [← hV.out]; exact (Below.refl _ _).alloc (Nat.le_refl _) _
  have HG := Lib.hid (ref_getEntry r V (by omega))
  rw [ent_same] at HG
  have HS : Hid (∀ e w', GotEnt V (full (rdEnt r)) e w' → _) := fun e w' h => got_ent1 k r V e w' h
  obtain ⟨o, ho⟩ := hide (recEnt k r)
  rw [ho.out] at HS ⊢
  have HI := Lib.hid hi
  clear hb1 hrl hi
  go_enter Tryz.func31, Tryz.ntmps31
  go_upto_region 1 with fail
  rw [hW.out, hR.out, hP.out]
  go_upto_region 4 with fail
  rw [hV.out]
  go_wp2_with fail
  refine HG.out.mono ?_
  intro e w1 hp
  obtain ⟨ii, ti, qi, dd, zz, rfl, hbb, hno, hyes⟩ := HS.out e w1 hp
  clear hl1 hd t0 t1 t2 hr hp
  obtain ⟨X, hX⟩ := hide (w1.alloc (.cells #[.int .i64 ii, .int .i64 ti, .int .i64 qi, str dd] 78))
  obtain ⟨C, hC⟩ := hide w1.heap.size
  have hbX : Hid (Below W.heap.size W X) := by
    show Below _ _ _
    rw [← hX.out]
    have h1 : Below W.heap.size W w1 := hbV.out.trans (hbb.mono hbV.out.size)
    exact h1.alloc h1.size _
  have hCX : Hid (X.heap[C]? = some (.cells #[.int .i64 ii, .int .i64 ti, .int .i64 qi, str dd] 78 (0, 0))) := by show _ = _; rw [← hX.out, ← hC.out]; exact hp_at _ _ rfl
  have Hlt : Hid (P < C ∧ R < C ∧ P ≠ R ∧ w.heap.size ≤ P) := by
    have h1 := hbV.out.size
    have h2 := hbb.size
    have h3 := Hsz.out
    have h4 := hC.out
    exact ⟨by omega, by omega, by omega, by omega⟩
  have HRX : Hid (X.heap[R]? = some (.cells zeroKept.toArray 43 (0, 0))) := (hbX.out.block R (lt_of_block HR.out)).trans HR.out
  have HPX : Hid (X.heap[P]? = some (.cells (cellsK k (.slice ae k.es.length ce) (.slice ao1 k.sc.v.length cp1) (.slice ao2 k.sc.n.length cp2) (.slice ao3 k.sc.l.length cp3) (.slice ao4 k.cf.v.length cp4) (.slice ao5 k.cf.n.length cp5) (.slice ao6 k.cf.l.length cp6)) 43 (0, 0))) := (hbX.out.block P (lt_of_block HPk.out)).trans HPk.out
  have HbWX : Hid (Below w.heap.size w X) := HbW.out.trans (hbX.out.mono HbW.out.size)
  have Hno := Lib.hid hno
  have Hyes := Lib.hid hyes
  clear hbb hno hyes
  go_upto_region 16 with fail
  rw [hX.out, hC.out]
  have HE0 : Hid (∀ w', Below X.heap.size X w' → Calls Tryz.prog 67 #[vLog k.base k.bt (.slice ae k.es.length ce)] w' fun e w'' => e = .returned (.int .i64 (endK k)) ∧ Below w'.heap.size w' w'') := fun w' hb => ref_end k.base k.bt _ k.es F w' (HE.out.frame (Plain.good _) (Agree.below (HbWX.out.trans (hb.mono HbWX.out.size)))) HI.out.ok
  have HRXn : Hid (∀ n, (X.drewN n).heap[R]? = some (.cells zeroKept.toArray 43 (0, 0))) := fun n => HRX.out
  have HPXn : Hid (∀ n, (X.drewN n).heap[P]? = some (.cells (cellsK k (.slice ae k.es.length ce) (.slice ao1 k.sc.v.length cp1) (.slice ao2 k.sc.n.length cp2) (.slice ao3 k.sc.l.length cp3) (.slice ao4 k.cf.v.length cp4) (.slice ao5 k.cf.n.length cp5) (.slice ao6 k.cf.l.length cp6)) 43 (0, 0))) := fun n => HPX.out
  by_cases hz : (zz == 0) = true
  · have tz : (zz != 0) = false := by rw [bne, hz]; rfl
    obtain ⟨hii, hyes⟩ := Hyes.out hz
    have Hy := Lib.hid hyes
    have c0 := cell_n hCX.out 0 (v := .int .i64 ii) rfl
    have d3 := cell_n HPX.out 3 (v := .int .i64 k.base) rfl
    by_cases hb : ii ≤ k.base
    · have hTb : decide (ii ≤ k.base) = true := decide_eq_true hb
      have hno : o = none := by rw [Hy.out, if_pos (Or.inl hb)]
      subst hno
      clear hz hb hyes hii
      go_upto_region 17 with (go_quiet (fail))
      have HRY := Lib.hid (HRXn.out nq)
      have HPY := Lib.hid (HPXn.out nq)
      have HbWY := Lib.hid (below_drewN HbWX.out nq)
      try clear c0 d3
      generalize X.drewN nq = Y at HRY HPY HbWY ⊢
      have Hpost : Hid (TakenPost F w none (.returned (.tuple #[.agg (cellsK k (.slice ae k.es.length ce) (.slice ao1 k.sc.v.length cp1) (.slice ao2 k.sc.n.length cp2) (.slice ao3 k.sc.l.length cp3) (.slice ao4 k.cf.v.length cp4) (.slice ao5 k.cf.n.length cp5) (.slice ao6 k.cf.l.length cp6)), .bool false])) (setAll Y R (cellsK k (.slice ae k.es.length ce) (.slice ao1 k.sc.v.length cp1) (.slice ao2 k.sc.n.length cp2) (.slice ao3 k.sc.l.length cp3) (.slice ao4 k.cf.v.length cp4) (.slice ao5 k.cf.n.length cp5) (.slice ao6 k.cf.l.length cp6)).toList)) := by
        have hs := Hsz.out
        have h1 : Below w.heap.size w (setAll Y R (cellsK k (.slice ae k.es.length ce) (.slice ao1 k.sc.v.length cp1) (.slice ao2 k.sc.n.length cp2) (.slice ao3 k.sc.l.length cp3) (.slice ao4 k.cf.v.length cp4) (.slice ao5 k.cf.n.length cp5) (.slice ao6 k.cf.l.length cp6)).toList) := setAll_below HbWY.out (by omega) _
        refine ⟨h1, k, _, _, _, _, _, _, _, rfl, ?_, HC.out.fresh h1, HCf.out.fresh h1, fun _ h => by cases h⟩
        exact (HE.out.frame (Plain.good _) (Agree.below h1)).weak (Plain.good _) (fun _ h _ => Or.inl h)
      have h9 := setAll_at (HRY.out) (cellsK k (.slice ae k.es.length ce) (.slice ao1 k.sc.v.length cp1) (.slice ao2 k.sc.n.length cp2) (.slice ao3 k.sc.l.length cp3) (.slice ao4 k.cf.v.length cp4) (.slice ao5 k.cf.n.length cp5) (.slice ao6 k.cf.l.length cp6)).toList rfl
      have H9 := Lib.hid h9
      have Hth : Hid (Y.there R 0 15) := there_ofW (HRY.out)
      have Hbl := Lib.hid (HPY.out)
      clear h9
      refine wp_region_lit ?_
      refine wpList_load_row rfl 43 (.tmp 2) rfl P rfl 43 (cellsK k (.slice ae k.es.length ce) (.slice ao1 k.sc.v.length cp1) (.slice ao2 k.sc.n.length cp2) (.slice ao3 k.sc.l.length cp3) (.slice ao4 k.cf.v.length cp4) (.slice ao5 k.cf.n.length cp5) (.slice ao6 k.cf.l.length cp6)) (0, 0) _ Hbl.out Tryz.underlying43 rfl size_kept ?_
      refine wpList_store_mid rfl 43 (.tmp 4) (.tmp 85) rfl R 0 (cellsK k (.slice ae k.es.length ce) (.slice ao1 k.sc.v.length cp1) (.slice ao2 k.sc.n.length cp2) (.slice ao3 k.sc.l.length cp3) (.slice ao4 k.cf.v.length cp4) (.slice ao5 k.cf.n.length cp5) (.slice ao6 k.cf.l.length cp6)) rfl rfl Hth.out size_kept (by simp [Value.oneCell']) ?_
      rw [setCells_eqW]
      show wpList _ _ _ _ _ (setAll Y R (cellsK k (.slice ae k.es.length ce) (.slice ao1 k.sc.v.length cp1) (.slice ao2 k.sc.n.length cp2) (.slice ao3 k.sc.l.length cp3) (.slice ao4 k.cf.v.length cp4) (.slice ao5 k.cf.n.length cp5) (.slice ao6 k.cf.l.length cp6)).toList)
      generalize setAll Y R (cellsK k (.slice ae k.es.length ce) (.slice ao1 k.sc.v.length cp1) (.slice ao2 k.sc.n.length cp2) (.slice ao3 k.sc.l.length cp3) (.slice ao4 k.cf.v.length cp4) (.slice ao5 k.cf.n.length cp5) (.slice ao6 k.cf.l.length cp6)).toList = W9 at H9 Hpost ⊢
      go_wp2_with fail
      refine bodyPost_ret (results_cell_tmp rfl _ W9 R 43 (cellsK k (.slice ae k.es.length ce) (.slice ao1 k.sc.v.length cp1) (.slice ao2 k.sc.n.length cp2) (.slice ao3 k.sc.l.length cp3) (.slice ao4 k.cf.v.length cp4) (.slice ao5 k.cf.n.length cp5) (.slice ao6 k.cf.l.length cp6)) (0, 0) _ rfl H9.out Tryz.underlying43 rfl size_kept) rfl ?_
      exact Hpost.out
    · have hTb : decide (ii ≤ k.base) = false := decide_eq_false hb
      obtain ⟨q, hTe⟩ : ∃ q, decide (endK k + 1 < ii) = q := ⟨_, rfl⟩
      have hek : IntKind.i64.wrap (endK k + 1) = endK k + 1 := IntWalk.i64_in _ (by
        have h1 := HI.out.n
        have h3 := HI.out.log
        unfold logB headB at h3
        simp only [Bool.and_eq_true] at h3
        have h2 := inB_of h3.1.1
        unfold endK
        omega)
      have HEr : Hid (∀ (d : Nat) (os : Array Obj), Calls Tryz.prog 67 #[vLog k.base k.bt (.slice ae k.es.length ce)] (Sort.grow (redrawn X d) os) fun e w'' => e = .returned (.int .i64 (endK k)) ∧ Below (Sort.grow (redrawn X d) os).heap.size (Sort.grow (redrawn X d) os) w'') := fun d os => HE0.out _ (below_regrown X d os)
      have Hb := Lib.hid hb
      clear c0 d3 hz hb hyes
      have c0 := fun (d : Nat) (os : Array Obj) => cell_regrown (cell_n hCX.out 0 (v := .int .i64 ii) rfl) d os
      have d3 := fun (d : Nat) (os : Array Obj) => cell_regrown (cell_n HPX.out 3 (v := .int .i64 k.base) rfl) d os
      have d4 := fun (d : Nat) (os : Array Obj) => cell_regrown (cell_n HPX.out 4 (v := .int .i64 k.bt) rfl) d os
      have d5 := fun (d : Nat) (os : Array Obj) => cell_regrown (cell_n HPX.out 5 (v := .slice ae k.es.length ce) rfl) d os
      refine wp_region_quiet_below (by kernel_rfl) (by kernel_rfl) ?_
      repeat (go_big_quiet_step (first | (go_at_call 67; with_reducible refine Calls.regrown_of (HEr.out _ _))))
      refine wpQuiet_nil ?_
      intro _ hw'
      obtain ⟨⟨dq, osq⟩, hw''⟩ := hw'
      subst hw''
      dsimp only
      have hbY := below_regrown X dq osq
      obtain ⟨Y, hY⟩ := hide (Sort.grow (redrawn X dq) osq)
      rw [hY.out] at hbY ⊢
      have HRY : Hid (Y.heap[R]? = some (.cells zeroKept.toArray 43 (0, 0))) := (hbY.block R (lt_of_block HRX.out)).trans HRX.out
      have HPY : Hid (Y.heap[P]? = some (.cells (cellsK k (.slice ae k.es.length ce) (.slice ao1 k.sc.v.length cp1) (.slice ao2 k.sc.n.length cp2) (.slice ao3 k.sc.l.length cp3) (.slice ao4 k.cf.v.length cp4) (.slice ao5 k.cf.n.length cp5) (.slice ao6 k.cf.l.length cp6)) 43 (0, 0))) := (hbY.block P (lt_of_block HPX.out)).trans HPX.out
      have HCY : Hid (Y.heap[C]? = some (.cells #[.int .i64 ii, .int .i64 ti, .int .i64 qi, str dd] 78 (0, 0))) := (hbY.block C (lt_of_block hCX.out)).trans hCX.out
      have HbWY : Hid (Below w.heap.size w Y) := HbWX.out.trans (hbY.mono HbWX.out.size)
      clear c0 d3 d4 d5 hbY
      cases q with
      | true =>
        have hno : o = none := by rw [Hy.out, if_pos (Or.inr (of_decide_eq_true hTe))]
        subst hno
        clear hTe
        have Hpost : Hid (TakenPost F w none (.returned (.tuple #[.agg (cellsK k (.slice ae k.es.length ce) (.slice ao1 k.sc.v.length cp1) (.slice ao2 k.sc.n.length cp2) (.slice ao3 k.sc.l.length cp3) (.slice ao4 k.cf.v.length cp4) (.slice ao5 k.cf.n.length cp5) (.slice ao6 k.cf.l.length cp6)), .bool false])) (setAll Y R (cellsK k (.slice ae k.es.length ce) (.slice ao1 k.sc.v.length cp1) (.slice ao2 k.sc.n.length cp2) (.slice ao3 k.sc.l.length cp3) (.slice ao4 k.cf.v.length cp4) (.slice ao5 k.cf.n.length cp5) (.slice ao6 k.cf.l.length cp6)).toList)) := by
          have hs := Hsz.out
          have h1 : Below w.heap.size w (setAll Y R (cellsK k (.slice ae k.es.length ce) (.slice ao1 k.sc.v.length cp1) (.slice ao2 k.sc.n.length cp2) (.slice ao3 k.sc.l.length cp3) (.slice ao4 k.cf.v.length cp4) (.slice ao5 k.cf.n.length cp5) (.slice ao6 k.cf.l.length cp6)).toList) := setAll_below HbWY.out (by omega) _
          refine ⟨h1, k, _, _, _, _, _, _, _, rfl, ?_, HC.out.fresh h1, HCf.out.fresh h1, fun _ h => by cases h⟩
          exact (HE.out.frame (Plain.good _) (Agree.below h1)).weak (Plain.good _) (fun _ h _ => Or.inl h)
        have h9 := setAll_at (HRY.out) (cellsK k (.slice ae k.es.length ce) (.slice ao1 k.sc.v.length cp1) (.slice ao2 k.sc.n.length cp2) (.slice ao3 k.sc.l.length cp3) (.slice ao4 k.cf.v.length cp4) (.slice ao5 k.cf.n.length cp5) (.slice ao6 k.cf.l.length cp6)).toList rfl
        have H9 := Lib.hid h9
        have Hth : Hid (Y.there R 0 15) := there_ofW (HRY.out)
        have Hbl := Lib.hid (HPY.out)
        clear h9
        go_upto_region 17 with fail
        refine wp_region_lit ?_
        refine wpList_load_row rfl 43 (.tmp 2) rfl P rfl 43 (cellsK k (.slice ae k.es.length ce) (.slice ao1 k.sc.v.length cp1) (.slice ao2 k.sc.n.length cp2) (.slice ao3 k.sc.l.length cp3) (.slice ao4 k.cf.v.length cp4) (.slice ao5 k.cf.n.length cp5) (.slice ao6 k.cf.l.length cp6)) (0, 0) _ Hbl.out Tryz.underlying43 rfl size_kept ?_
        refine wpList_store_mid rfl 43 (.tmp 4) (.tmp 85) rfl R 0 (cellsK k (.slice ae k.es.length ce) (.slice ao1 k.sc.v.length cp1) (.slice ao2 k.sc.n.length cp2) (.slice ao3 k.sc.l.length cp3) (.slice ao4 k.cf.v.length cp4) (.slice ao5 k.cf.n.length cp5) (.slice ao6 k.cf.l.length cp6)) rfl rfl Hth.out size_kept (by simp [Value.oneCell']) ?_
        rw [setCells_eqW]
        show wpList _ _ _ _ _ (setAll Y R (cellsK k (.slice ae k.es.length ce) (.slice ao1 k.sc.v.length cp1) (.slice ao2 k.sc.n.length cp2) (.slice ao3 k.sc.l.length cp3) (.slice ao4 k.cf.v.length cp4) (.slice ao5 k.cf.n.length cp5) (.slice ao6 k.cf.l.length cp6)).toList)
        generalize setAll Y R (cellsK k (.slice ae k.es.length ce) (.slice ao1 k.sc.v.length cp1) (.slice ao2 k.sc.n.length cp2) (.slice ao3 k.sc.l.length cp3) (.slice ao4 k.cf.v.length cp4) (.slice ao5 k.cf.n.length cp5) (.slice ao6 k.cf.l.length cp6)).toList = W9 at H9 Hpost ⊢
        go_wp2_with fail
        refine bodyPost_ret (results_cell_tmp rfl _ W9 R 43 (cellsK k (.slice ae k.es.length ce) (.slice ao1 k.sc.v.length cp1) (.slice ao2 k.sc.n.length cp2) (.slice ao3 k.sc.l.length cp3) (.slice ao4 k.cf.v.length cp4) (.slice ao5 k.cf.n.length cp5) (.slice ao6 k.cf.l.length cp6)) (0, 0) _ rfl H9.out Tryz.underlying43 rfl size_kept) rfl ?_
        exact Hpost.out
      | false =>
        have hle : ii ≤ endK k + 1 := by have := of_decide_eq_false hTe; omega
        obtain ⟨m, hm⟩ : ∃ m : Nat, ii - k.base - 1 = (m : Int) := ⟨(ii - k.base - 1).toNat, by have := Hb.out; omega⟩
        have h1 := HI.out.n
        have hmn : m ≤ k.es.length := by unfold endK at hle; omega
        have h2 : 0 ≤ k.base ∧ k.base ≤ 1099511627775 := by
          have h3 := HI.out.log
          unfold logB headB at h3
          simp only [Bool.and_eq_true] at h3
          exact inB_of h3.1.1
        have hw1 : IntKind.i64.wrap (ii - k.base) = ii - k.base := IntWalk.i64_in _ (by omega)
        have hw2 : IntKind.i64.wrap (ii - k.base - 1) = (m : Int) := by rw [hm]; exact IntWalk.i64_in _ (by omega)
        have hEY : Ents F Y (.slice ae k.es.length ce) k.es := HE.out.frame (Plain.good _) (Agree.below HbWY.out)
        have hceS := (hEY.slice)
        have hmc : m ≤ ce := by
          obtain ⟨a', c', e', h', _⟩ := hceS
          injection e' with e1 e2 e3
          omega
        have htk := hEY.take hmn
        have hll : (k.es.take m).length = m := by rw [List.length_take]; omega
        have HsT : Hid (Src Tryz.prog 4 24 (.slice ae m ce) m ((k.es.take m).flatMap rowE) Y) := by
          show Src _ _ _ _ _ _ _
          have h9 := src_sl (P := Tryz.prog) (tx := 24) (ao := ae) (cap := ce) (l := k.es.take m) rowE Tryz.underlying24 (by decide) rowE_len rowE_one (by rw [hll]; exact htk)
          rw [hll] at h9
          exact h9
        have hmc2 : (m : Int) ≤ (ce : Int) := by omega
        have c0 := cell_n HCY.out 0 (v := .int .i64 ii) rfl
        have d3 := cell_n HPY.out 3 (v := .int .i64 k.base) rfl
        have d5 := cell_n HPY.out 5 (v := .slice ae k.es.length ce) rfl
        have Hm40 : Hid (m ≤ 1099511627775) := by show _ ≤ _; omega
        clear h1 h2 hEY hceS htk hll hle
        go_upto_region 19 with fail
        go_wp2_with (at_builtin; refine wpList_append_at rfl _ _ 24 24 rfl Y.heap.size 78 _ 4 40 Tryz.underlying24 info_ent rfl _ 0 _ rfl (World.ownsRow_nil _ _ _ _) _ m _ rfl HsT.out (by have := Hm40.out; unfold maxLen; omega) (by have := Hm40.out; omega) (Nat.le_refl _) ?_)
        intro v9 Z ho9 hg9 hb9
        obtain ⟨a9, k9, rfl⟩ := owns_slice ho9
        have HbZ : Hid (Below Y.heap.size Y Z) := ⟨hg9.os, hg9.tape, hg9.output, hg9.size, fun k hk => hg9.block k (by omega) (by simp [Value.ownBlock])⟩
        have hA0 : Below Z.heap.size Z (Z.alloc (.cells #[.int .i64 ii, .int .i64 ti, .int .i64 qi, str dd] 78)) := (Below.refl _ _).alloc (Nat.le_refl _) _
        have HbA : Hid (Below Y.heap.size Y (Z.alloc (.cells #[.int .i64 ii, .int .i64 ti, .int .i64 qi, str dd] 78))) := HbZ.out.trans (hA0.mono HbZ.out.size)
        have HoA := Lib.hid (ho9.alloc (.cells #[.int .i64 ii, .int .i64 ti, .int .i64 qi, str dd] 78))
        have HsN : Hid (Src Tryz.prog 4 24 (.slice (some ⟨Z.heap.size, 0, none⟩) 1 1) 1 [.int .i64 ii, .int .i64 ti, .int .i64 qi, str dd] (Z.alloc (.cells #[.int .i64 ii, .int .i64 ti, .int .i64 qi, str dd] 78))) := src_new (w := Z) Tryz.underlying24 _ 1 rfl (rowE_one ⟨ii, ti, qi, dd⟩)
        have HCZ : Hid (Z.heap[C]? = _) := (HbZ.out.block C (lt_of_block HCY.out)).trans HCY.out
        have HSz := Lib.hid HbA.out.size
        clear c0 d3 d5 hA0 hg9 hb9 ho9
        have e0 := cell_n HCZ.out 0 (v := .int .i64 ii) rfl
        have e1 := cell_n HCZ.out 1 (v := .int .i64 ti) rfl
        have e2 := cell_n HCZ.out 2 (v := .int .i64 qi) rfl
        have e3 := cell_n HCZ.out 3 (v := str dd) rfl
        go_wp2_with (at_builtin; refine wpList_append_at rfl _ _ 24 24 rfl Y.heap.size 78 _ 4 40 Tryz.underlying24 info_ent rfl _ _ _ rfl HoA.out _ 1 _ rfl HsN.out (by have := Hm40.out; unfold maxLen; omega) (by have := Hm40.out; omega) HSz.out ?_)
        intro v8 Z2 ho8 hg8 hb8
        obtain ⟨a8, k8, rfl⟩ := owns_slice ho8
        have HP2 : Hid (Z2.heap[P]? = some (.cells (cellsK k (.slice ae k.es.length ce) (.slice ao1 k.sc.v.length cp1) (.slice ao2 k.sc.n.length cp2) (.slice ao3 k.sc.l.length cp3) (.slice ao4 k.cf.v.length cp4) (.slice ao5 k.cf.n.length cp5) (.slice ao6 k.cf.l.length cp6)) 43 (0, 0))) := (hg8.block P (Nat.lt_of_lt_of_le (lt_of_block HPY.out) HSz.out) (fun e => by have h1 := (HoA.out.lt P e.symm).1; have h2 := lt_of_block HPY.out; omega)).trans ((HbA.out.block P (lt_of_block HPY.out)).trans HPY.out)
        have HR2 : Hid (Z2.heap[R]? = some (.cells zeroKept.toArray 43 (0, 0))) := (hg8.block R (Nat.lt_of_lt_of_le (lt_of_block HRY.out) HSz.out) (fun e => by have h1 := (HoA.out.lt R e.symm).1; have h2 := lt_of_block HRY.out; omega)).trans ((HbA.out.block R (lt_of_block HRY.out)).trans HRY.out)
        have Hb8 : Hid (Below Y.heap.size Y Z2) := HbA.out.trans (below_own HoA.out hg8 (Nat.le_refl _) HSz.out)
        have Ho8 := Lib.hid ho8
        have d5 := cell_n HP2.out 5 (v := .slice ae k.es.length ce) rfl
        have f5 := free_n HP2.out 5
        clear e0 e1 e2 e3 ho8 hg8 hb8
        go_upto_region 21 with fail
        obtain ⟨U, hU⟩ := hide (Z2.setCell ⟨P, 5, none⟩ (.slice a8 (m + 1) k8))
        rw [hU.out]
        have hlen : (k.es.take m ++ [(⟨ii, ti, qi, dd⟩ : EntP)]).length = m + 1 := by rw [List.length_append, List.length_take]; simp; omega
        have hcU : Hid (Chg (fun b => b = P) Z2 U) := by show Chg _ _ _; rw [← hU.out]; exact Chg.setCell (F := fun b => b = P) (a := ⟨P, 5, none⟩) Z2 rfl _
        have HPU : Hid (U.heap[P]? = some (.cells (cellsK { k with es := k.es.take m ++ [⟨ii, ti, qi, dd⟩] } (.slice a8 (m + 1) k8) (.slice ao1 k.sc.v.length cp1) (.slice ao2 k.sc.n.length cp2) (.slice ao3 k.sc.l.length cp3) (.slice ao4 k.cf.v.length cp4) (.slice ao5 k.cf.n.length cp5) (.slice ao6 k.cf.l.length cp6)) 43 (0, 0))) := by show _ = _; rw [← hU.out]; exact at_set HP2.out _
        have HRU : Hid (U.heap[R]? = some (.cells zeroKept.toArray 43 (0, 0))) := hcU.out.at HR2.out (fun e => Hlt.out.2.2.1 e.symm)
        have HbWU : Hid (Below w.heap.size w U) := (HbWY.out.trans (Hb8.out.mono HbWY.out.size)).trans (hcU.out.toBelow (fun g hg => by have := Hlt.out; omega) (HbWY.out.trans (Hb8.out.mono HbWY.out.size)).size)
        have HoU : Hid (OwnE Y.heap.size U (.slice a8 (m + 1) k8) (k.es.take m ++ [⟨ii, ti, qi, dd⟩])) := by
          show World.ownsRow _ _ _ _ _ _ _
          rw [hlen]
          refine own_chg ?_ hcU.out (fun g hg e => by have h1 := (Ho8.out.lt g hg).1; have h2 := lt_of_block HPY.out; omega)
          have h9 := Ho8.out
          simpa [List.flatMap_append] using h9
        have HL := Lib.hid (ref_isLog k.base k.bt _ _ _ U (OwnE.ents HoU.out) (by rw [hlen]; have := Hm40.out; omega))
        have Hyo : Hid (o = if logB k.base k.bt (k.es.take m ++ [⟨ii, ti, qi, dd⟩]) = true then some { k with es := k.es.take m ++ [⟨ii, ti, qi, dd⟩] } else none) := by
          show _ = _
          rw [Hy.out, if_neg (by have h7 := Hb.out; have h8 := of_decide_eq_false hTe; omega)]
          have : (ii - k.base - 1).toNat = m := by omega
          rw [this]
        obtain ⟨q, hq⟩ := hide (logB k.base k.bt (k.es.take m ++ [⟨ii, ti, qi, dd⟩]))
        rw [hq.out] at HL Hyo
        have d3 := cell_n HPU.out 3 (v := .int .i64 k.base) rfl
        have d4 := cell_n HPU.out 4 (v := .int .i64 k.bt) rfl
        have d5 := cell_n HPU.out 5 (v := .slice a8 (m + 1) k8) rfl
        go_wp2_with fail
        refine HL.out.mono ?_
        rintro e U2 ⟨rfl, hbU2⟩
        have HPX2 : Hid (U2.heap[P]? = some (.cells (cellsK { k with es := k.es.take m ++ [⟨ii, ti, qi, dd⟩] } (.slice a8 (m + 1) k8) (.slice ao1 k.sc.v.length cp1) (.slice ao2 k.sc.n.length cp2) (.slice ao3 k.sc.l.length cp3) (.slice ao4 k.cf.v.length cp4) (.slice ao5 k.cf.n.length cp5) (.slice ao6 k.cf.l.length cp6)) 43 (0, 0))) := (hbU2.block P (lt_of_block HPU.out)).trans HPU.out
        have HRX2 : Hid (U2.heap[R]? = some (.cells zeroKept.toArray 43 (0, 0))) := (hbU2.block R (lt_of_block HRU.out)).trans HRU.out
        have HbW2 : Hid (Below w.heap.size w U2) := HbWU.out.trans (hbU2.mono HbWU.out.size)
        have HoE : Hid (OwnE Y.heap.size U2 (.slice a8 (m + 1) k8) (k.es.take m ++ [⟨ii, ti, qi, dd⟩])) := own_below HoU.out hbU2
        clear d3 d4 d5 hbU2
        have Hpost : Hid (TakenPost F w o (.returned (.tuple #[.agg (cellsK { k with es := k.es.take m ++ [⟨ii, ti, qi, dd⟩] } (.slice a8 (m + 1) k8) (.slice ao1 k.sc.v.length cp1) (.slice ao2 k.sc.n.length cp2) (.slice ao3 k.sc.l.length cp3) (.slice ao4 k.cf.v.length cp4) (.slice ao5 k.cf.n.length cp5) (.slice ao6 k.cf.l.length cp6)), .bool q])) (setAll U2 R (cellsK { k with es := k.es.take m ++ [⟨ii, ti, qi, dd⟩] } (.slice a8 (m + 1) k8) (.slice ao1 k.sc.v.length cp1) (.slice ao2 k.sc.n.length cp2) (.slice ao3 k.sc.l.length cp3) (.slice ao4 k.cf.v.length cp4) (.slice ao5 k.cf.n.length cp5) (.slice ao6 k.cf.l.length cp6)).toList)) := by
          have hs := Hsz.out
          have h1 : Below w.heap.size w (setAll U2 R (cellsK { k with es := k.es.take m ++ [⟨ii, ti, qi, dd⟩] } (.slice a8 (m + 1) k8) (.slice ao1 k.sc.v.length cp1) (.slice ao2 k.sc.n.length cp2) (.slice ao3 k.sc.l.length cp3) (.slice ao4 k.cf.v.length cp4) (.slice ao5 k.cf.n.length cp5) (.slice ao6 k.cf.l.length cp6)).toList) := setAll_below HbW2.out (by omega) _
          have h2 : Chg (fun b => b = R) U2 (setAll U2 R (cellsK { k with es := k.es.take m ++ [⟨ii, ti, qi, dd⟩] } (.slice a8 (m + 1) k8) (.slice ao1 k.sc.v.length cp1) (.slice ao2 k.sc.n.length cp2) (.slice ao3 k.sc.l.length cp3) (.slice ao4 k.cf.v.length cp4) (.slice ao5 k.cf.n.length cp5) (.slice ao6 k.cf.l.length cp6)).toList) := chg_from R _ U2 0
          rw [Hyo.out]
          refine ⟨h1, { k with es := k.es.take m ++ [⟨ii, ti, qi, dd⟩] }, (.slice a8 (m + 1) k8), (.slice ao1 k.sc.v.length cp1), (.slice ao2 k.sc.n.length cp2), (.slice ao3 k.sc.l.length cp3), (.slice ao4 k.cf.v.length cp4), (.slice ao5 k.cf.n.length cp5), (.slice ao6 k.cf.l.length cp6), ?_, ?_, HC.out.fresh h1, HCf.out.fresh h1, ?_⟩
          · cases q <;> rfl
          · exact ((OwnE.ents HoE.out).frame (Plain.good _) (h2.agree (fun b hb e => by have h3 := lt_of_block HRY.out; omega))).weak (Plain.good _) (fun _ h _ => Or.inr (Nat.le_trans HbWY.out.size h))
          · intro k2 h
            split at h
            · injection h
            · cases h
        have h9 := setAll_at (HRX2.out) (cellsK { k with es := k.es.take m ++ [⟨ii, ti, qi, dd⟩] } (.slice a8 (m + 1) k8) (.slice ao1 k.sc.v.length cp1) (.slice ao2 k.sc.n.length cp2) (.slice ao3 k.sc.l.length cp3) (.slice ao4 k.cf.v.length cp4) (.slice ao5 k.cf.n.length cp5) (.slice ao6 k.cf.l.length cp6)).toList rfl
        have H9 := Lib.hid h9
        have Hth : Hid (U2.there R 0 15) := there_ofW (HRX2.out)
        have Hbl := Lib.hid (HPX2.out)
        clear h9
        go_upto_region 22 with fail
        refine wp_region_lit ?_
        refine wpList_load_row rfl 43 (.tmp 2) rfl P rfl 43 (cellsK { k with es := k.es.take m ++ [⟨ii, ti, qi, dd⟩] } (.slice a8 (m + 1) k8) (.slice ao1 k.sc.v.length cp1) (.slice ao2 k.sc.n.length cp2) (.slice ao3 k.sc.l.length cp3) (.slice ao4 k.cf.v.length cp4) (.slice ao5 k.cf.n.length cp5) (.slice ao6 k.cf.l.length cp6)) (0, 0) _ Hbl.out Tryz.underlying43 rfl size_kept ?_
        iterate 3 go_step
        refine wpList_store_mid rfl 43 (.tmp 4) (.tmp 108) rfl R 0 (cellsK { k with es := k.es.take m ++ [⟨ii, ti, qi, dd⟩] } (.slice a8 (m + 1) k8) (.slice ao1 k.sc.v.length cp1) (.slice ao2 k.sc.n.length cp2) (.slice ao3 k.sc.l.length cp3) (.slice ao4 k.cf.v.length cp4) (.slice ao5 k.cf.n.length cp5) (.slice ao6 k.cf.l.length cp6)) rfl rfl Hth.out size_kept (by simp [Value.oneCell']) ?_
        rw [setCells_eqW]
        show wpList _ _ _ _ _ (setAll U2 R (cellsK { k with es := k.es.take m ++ [⟨ii, ti, qi, dd⟩] } (.slice a8 (m + 1) k8) (.slice ao1 k.sc.v.length cp1) (.slice ao2 k.sc.n.length cp2) (.slice ao3 k.sc.l.length cp3) (.slice ao4 k.cf.v.length cp4) (.slice ao5 k.cf.n.length cp5) (.slice ao6 k.cf.l.length cp6)).toList)
        generalize setAll U2 R (cellsK { k with es := k.es.take m ++ [⟨ii, ti, qi, dd⟩] } (.slice a8 (m + 1) k8) (.slice ao1 k.sc.v.length cp1) (.slice ao2 k.sc.n.length cp2) (.slice ao3 k.sc.l.length cp3) (.slice ao4 k.cf.v.length cp4) (.slice ao5 k.cf.n.length cp5) (.slice ao6 k.cf.l.length cp6)).toList = W9 at H9 Hpost ⊢
        go_wp2_with fail
        refine bodyPost_ret (results_cell_tmp rfl _ W9 R 43 (cellsK { k with es := k.es.take m ++ [⟨ii, ti, qi, dd⟩] } (.slice a8 (m + 1) k8) (.slice ao1 k.sc.v.length cp1) (.slice ao2 k.sc.n.length cp2) (.slice ao3 k.sc.l.length cp3) (.slice ao4 k.cf.v.length cp4) (.slice ao5 k.cf.n.length cp5) (.slice ao6 k.cf.l.length cp6)) (0, 0) _ rfl H9.out Tryz.underlying43 rfl size_kept) rfl ?_
        exact Hpost.out
  · have hz2 : (zz == 0) = false := by simpa using hz
    have tz : (zz != 0) = true := by rw [bne, hz2]; rfl
    have hno := Hno.out hz2
    subst hno
    clear hz hz2
    go_upto_region 17 with (go_quiet (fail))
    have HRY := Lib.hid (HRXn.out nq)
    have HPY := Lib.hid (HPXn.out nq)
    have HbWY := Lib.hid (below_drewN HbWX.out nq)
    try clear c0 d3
    generalize X.drewN nq = Y at HRY HPY HbWY ⊢
    have Hpost : Hid (TakenPost F w none (.returned (.tuple #[.agg (cellsK k (.slice ae k.es.length ce) (.slice ao1 k.sc.v.length cp1) (.slice ao2 k.sc.n.length cp2) (.slice ao3 k.sc.l.length cp3) (.slice ao4 k.cf.v.length cp4) (.slice ao5 k.cf.n.length cp5) (.slice ao6 k.cf.l.length cp6)), .bool false])) (setAll Y R (cellsK k (.slice ae k.es.length ce) (.slice ao1 k.sc.v.length cp1) (.slice ao2 k.sc.n.length cp2) (.slice ao3 k.sc.l.length cp3) (.slice ao4 k.cf.v.length cp4) (.slice ao5 k.cf.n.length cp5) (.slice ao6 k.cf.l.length cp6)).toList)) := by
      have hs := Hsz.out
      have h1 : Below w.heap.size w (setAll Y R (cellsK k (.slice ae k.es.length ce) (.slice ao1 k.sc.v.length cp1) (.slice ao2 k.sc.n.length cp2) (.slice ao3 k.sc.l.length cp3) (.slice ao4 k.cf.v.length cp4) (.slice ao5 k.cf.n.length cp5) (.slice ao6 k.cf.l.length cp6)).toList) := setAll_below HbWY.out (by omega) _
      refine ⟨h1, k, _, _, _, _, _, _, _, rfl, ?_, HC.out.fresh h1, HCf.out.fresh h1, fun _ h => by cases h⟩
      exact (HE.out.frame (Plain.good _) (Agree.below h1)).weak (Plain.good _) (fun _ h _ => Or.inl h)
    have h9 := setAll_at (HRY.out) (cellsK k (.slice ae k.es.length ce) (.slice ao1 k.sc.v.length cp1) (.slice ao2 k.sc.n.length cp2) (.slice ao3 k.sc.l.length cp3) (.slice ao4 k.cf.v.length cp4) (.slice ao5 k.cf.n.length cp5) (.slice ao6 k.cf.l.length cp6)).toList rfl
    have H9 := Lib.hid h9
    have Hth : Hid (Y.there R 0 15) := there_ofW (HRY.out)
    have Hbl := Lib.hid (HPY.out)
    clear h9
    refine wp_region_lit ?_
    refine wpList_load_row rfl 43 (.tmp 2) rfl P rfl 43 (cellsK k (.slice ae k.es.length ce) (.slice ao1 k.sc.v.length cp1) (.slice ao2 k.sc.n.length cp2) (.slice ao3 k.sc.l.length cp3) (.slice ao4 k.cf.v.length cp4) (.slice ao5 k.cf.n.length cp5) (.slice ao6 k.cf.l.length cp6)) (0, 0) _ Hbl.out Tryz.underlying43 rfl size_kept ?_
    refine wpList_store_mid rfl 43 (.tmp 4) (.tmp 85) rfl R 0 (cellsK k (.slice ae k.es.length ce) (.slice ao1 k.sc.v.length cp1) (.slice ao2 k.sc.n.length cp2) (.slice ao3 k.sc.l.length cp3) (.slice ao4 k.cf.v.length cp4) (.slice ao5 k.cf.n.length cp5) (.slice ao6 k.cf.l.length cp6)) rfl rfl Hth.out size_kept (by simp [Value.oneCell']) ?_
    rw [setCells_eqW]
    show wpList _ _ _ _ _ (setAll Y R (cellsK k (.slice ae k.es.length ce) (.slice ao1 k.sc.v.length cp1) (.slice ao2 k.sc.n.length cp2) (.slice ao3 k.sc.l.length cp3) (.slice ao4 k.cf.v.length cp4) (.slice ao5 k.cf.n.length cp5) (.slice ao6 k.cf.l.length cp6)).toList)
    generalize setAll Y R (cellsK k (.slice ae k.es.length ce) (.slice ao1 k.sc.v.length cp1) (.slice ao2 k.sc.n.length cp2) (.slice ao3 k.sc.l.length cp3) (.slice ao4 k.cf.v.length cp4) (.slice ao5 k.cf.n.length cp5) (.slice ao6 k.cf.l.length cp6)).toList = W9 at H9 Hpost ⊢
    go_wp2_with fail
    refine bodyPost_ret (results_cell_tmp rfl _ W9 R 43 (cellsK k (.slice ae k.es.length ce) (.slice ao1 k.sc.v.length cp1) (.slice ao2 k.sc.n.length cp2) (.slice ao3 k.sc.l.length cp3) (.slice ao4 k.cf.v.length cp4) (.slice ao5 k.cf.n.length cp5) (.slice ao6 k.cf.l.length cp6)) (0, 0) _ rfl H9.out Tryz.underlying43 rfl size_kept) rfl ?_
    exact Hpost.out
end Go.Proofs.YtjlhlmnoomiblaaGreat
