/-
  What files say, read by the document: a snapshot's record on what is known (taken).
-/
import Derived.Test.YtjlhlmnoomiblaaGreatZ32
import Derived.Test.YtjlhlmnoomiblaaGreatZ26
namespace Go.Proofs.YtjlhlmnoomiblaaGreat
open Go.RowKit Wm Mm Lg Fl
set_option linter.unusedVariables false
set_option linter.unusedSimpArgs false

theorem got_snap1 (k : Kp) (r : List UInt8) (w : World) (e : Ending) (w' : World) (h : GotSnap w (full (rdSnap r)) e w') :
    ∃ (ii ti : Int) (x y z : Value) (qc : Conf) (qd : List UInt8) (zz : Int), e = .returned (.tuple #[vSnap ii ti x y z qd, .int .i64 zz]) ∧ Config3F w.heap.size w' x y z qc ∧ Below w.heap.size w w' ∧ (zz == 0) = (recSnap k r).isSome ∧ ∀ k2, recSnap k r = some k2 → { k with si := ii, st := ti, sc := qc, sd := qd, cf := qc, base := ii, bt := ti, es := [] } = k2 := by
  cases hh : full (rdSnap r) with
  | error zz =>
    rw [hh] at h
    obtain ⟨rfl, hb⟩ := h
    have hn : recSnap k r = none := by rw [recSnap, hh]
    refine ⟨0, 0, _, _, _, noC, [], zz, rfl, Config3F.nil _ _, hb, ?_, ?_⟩
    · rw [hn]; exact beq_eq_false_iff_ne.2 (rdSnap_err0 hh)
    · rw [hn]; intro k2 h; cases h
  | ok q =>
    rw [hh] at h
    obtain ⟨x, y, z, rfl, hc, hb⟩ := h
    have hn : recSnap k r = some { k with si := q.index, st := q.term, sc := q.conf, sd := q.data, cf := q.conf, base := q.index, bt := q.term, es := [] } := by rw [recSnap, hh]
    refine ⟨q.index, q.term, x, y, z, q.conf, q.data, 0, rfl, hc, hb, ?_, ?_⟩
    · rw [hn]; rfl
    · rw [hn]; intro k2 h; injection h
set_option maxHeartbeats 8000000 in
set_option maxRecDepth 100000 in
theorem taken_snap (k : Kp) (ev x y z cx cy cz : Value) (F : Nat → Prop) (w : World) (hE : Ents F w ev k.es) (hc : ConfG F w x y z k.sc) (hcf : ConfG F w cx cy cz k.cf) (s r : List UInt8) (hs : Body s 3 r) (hr : s.length ≤ 9223372036854775806) :
    Calls Tryz.prog 31 #[.agg (cellsK k ev x y z cx cy cz), str s] w (TakenPost F w (recSnap k r)) := by
  obtain ⟨ao1, cp1, rfl, _⟩ := len_of_Ints hc.conf.v
  obtain ⟨ao2, cp2, rfl, _⟩ := len_of_Ints hc.conf.n
  obtain ⟨ao3, cp3, rfl, _⟩ := len_of_Ints hc.conf.l
  obtain ⟨ao4, cp4, rfl, _⟩ := len_of_Ints hcf.conf.v
  obtain ⟨ao5, cp5, rfl, _⟩ := len_of_Ints hcf.conf.n
  obtain ⟨ao6, cp6, rfl, _⟩ := len_of_Ints hcf.conf.l
  obtain ⟨ae, ce, rfl, _, _⟩ := hE.slice
  obtain ⟨W, hW⟩ := hide ((w.alloc (.cells #[.int .i64 k.t, .int .i64 k.v, .int .i64 k.c, .int .i64 k.base, .int .i64 k.bt, .slice ae k.es.length ce, .int .i64 k.si, .int .i64 k.st, .slice ao1 k.sc.v.length cp1, .slice ao2 k.sc.n.length cp2, .slice ao3 k.sc.l.length cp3, str k.sd, .slice ao4 k.cf.v.length cp4, .slice ao5 k.cf.n.length cp5, .slice ao6 k.cf.l.length cp6] 43)).alloc (.cells #[.int .i64 0, .int .i64 0, .int .i64 0, .int .i64 0, .int .i64 0, .slice none 0 0, .int .i64 0, .int .i64 0, .slice none 0 0, .slice none 0 0, .slice none 0 0, .string ⟨#[]⟩, .slice none 0 0, .slice none 0 0, .slice none 0 0] 43))
  have hz : W.heap.size = w.heap.size + 2 := by rw [← hW.out]; simp
  have hb : Below w.heap.size w W := by rw [← hW.out]; exact ((Below.refl _ _).alloc (Nat.le_refl _) _).alloc (by simp) _
  obtain ⟨P, hP⟩ := hide w.heap.size
  obtain ⟨R, hR⟩ := hide (w.heap.size + 1)
  have HR : Hid (W.heap[R]? = some (.cells zeroKept.toArray 43 (0, 0))) := by show _ = _; rw [← hW.out, ← hR.out]; exact hp_at _ _ (by simp)
  have HPk : Hid (W.heap[P]? = some (.cells (cellsK k (.slice ae k.es.length ce) (.slice ao1 k.sc.v.length cp1) (.slice ao2 k.sc.n.length cp2) (.slice ao3 k.sc.l.length cp3) (.slice ao4 k.cf.v.length cp4) (.slice ao5 k.cf.n.length cp5) (.slice ao6 k.cf.l.length cp6)) 43 (0, 0))) := by show _ = _; rw [← hW.out, ← hP.out]; exact (hp_past _ _ (by simp)).trans (hp_at _ _ rfl)
  have HbW : Hid (Below w.heap.size w W) := hb
  have Hsz : Hid (W.heap.size = w.heap.size + 2 ∧ P = w.heap.size ∧ R = w.heap.size + 1) := ⟨hz, hP.out.symm, hR.out.symm⟩
  have HE := Lib.hid hE
  have HC := Lib.hid hc
  have HCf := Lib.hid hcf
  clear hE hc hcf hb hz
  obtain ⟨hl, hd, t0, hb1⟩ := hs
  have t1 : ((s[0].toNat : Int) == 1) = false := by rw [hb1]; rfl
  have t2 : ((s[0].toNat : Int) == 2) = false := by rw [hb1]; rfl
  have t3 : ((s[0].toNat : Int) == 3) = true := by rw [hb1]; rfl
  have hl1 : 1 ≤ s.length := hl
  have hrl : r.length ≤ 9223372036854775806 := by rw [← hd, List.length_drop]; omega
  obtain ⟨V, hV⟩ := hide (W.alloc (.cells #[str r, .int .i64 0] 112))
  have hbV : Hid (Below W.heap.size W V) := by show Below _ _ _; rw [← hV.out]; exact (Below.refl _ _).alloc (Nat.le_refl _) _
  have HG := Lib.hid (ref_getSnapshot r V (by omega))
  rw [snap_same] at HG
  have HS : Hid (∀ e w', GotSnap V (full (rdSnap r)) e w' → _) := fun e w' h => got_snap1 k r V e w' h
  obtain ⟨o, ho⟩ := hide (recSnap k r)
  rw [ho.out] at HS ⊢
  obtain ⟨qq, hqq⟩ := hide o.isSome
  clear hb1 hrl
  go_enter Tryz.func31, Tryz.ntmps31
  go_upto_region 1 with fail
  rw [hW.out, hR.out, hP.out]
  go_upto_region 4 with fail
  rw [hV.out]
  go_wp2_with fail
  refine HG.out.mono ?_
  intro e w1 hp
  obtain ⟨ii, ti, x', y', z', qc, qd, zz, rfl, hcf, hbb, hzz, hk2⟩ := HS.out e w1 hp
  clear hl1 hd t0 t1 t2 t3 hr hp
  obtain ⟨ax, cax, rfl, _⟩ := len_of_Ints hcf.conf.v
  obtain ⟨ay, cay, rfl, _⟩ := len_of_Ints hcf.conf.n
  obtain ⟨az, caz, rfl, _⟩ := len_of_Ints hcf.conf.l
  obtain ⟨n1, hn1⟩ := hide qc.v.length
  obtain ⟨n2, hn2⟩ := hide qc.n.length
  obtain ⟨n3, hn3⟩ := hide qc.l.length
  rw [hn1.out, hn2.out, hn3.out] at hcf ⊢
  rw [hqq.out] at hzz
  obtain ⟨X, hX⟩ := hide (w1.alloc (.cells #[.int .i64 ii, .int .i64 ti, .slice ax n1 cax, .slice ay n2 cay, .slice az n3 caz, str qd] 29))
  obtain ⟨C, hC⟩ := hide w1.heap.size
  have hbX : Hid (Below W.heap.size W X) := by
    show Below _ _ _
    rw [← hX.out]
    have h1 : Below W.heap.size W w1 := hbV.out.trans (hbb.mono hbV.out.size)
    exact h1.alloc h1.size _
  have hCX : Hid (X.heap[C]? = some (.cells #[.int .i64 ii, .int .i64 ti, .slice ax n1 cax, .slice ay n2 cay, .slice az n3 caz, str qd] 29 (0, 0))) := by show _ = _; rw [← hX.out, ← hC.out]; exact hp_at _ _ rfl
  have HcX : Hid (ConfG (fun b => b ≠ P ∧ b ≠ R ∧ w.heap.size ≤ b) X (.slice ax n1 cax) (.slice ay n2 cay) (.slice az n3 caz) qc) := by
    show ConfG _ _ _ _ _ _
    rw [← hX.out]
    have h := ConfG.ofF (F := fun b => b ≠ P ∧ b ≠ R ∧ w.heap.size ≤ b) hcf (fun b h1 h2 => by have h3 := hbV.out.size; have h4 := Hsz.out; have h5 := HbW.out.size; exact ⟨by omega, by omega, by omega⟩)
    exact h.frame (Agree.alloc _ _ _)
  have Hlt : Hid (P < C ∧ R < C ∧ P ≠ R ∧ w.heap.size ≤ P) := by
    have h1 := hbV.out.size
    have h2 := hbb.size
    have h3 := Hsz.out
    have h4 := hC.out
    exact ⟨by omega, by omega, by omega, by omega⟩
  have HRX : Hid (X.heap[R]? = some (.cells zeroKept.toArray 43 (0, 0))) := (hbX.out.block R (lt_of_block HR.out)).trans HR.out
  have HPX : Hid (X.heap[P]? = some (.cells (cellsK k (.slice ae k.es.length ce) (.slice ao1 k.sc.v.length cp1) (.slice ao2 k.sc.n.length cp2) (.slice ao3 k.sc.l.length cp3) (.slice ao4 k.cf.v.length cp4) (.slice ao5 k.cf.n.length cp5) (.slice ao6 k.cf.l.length cp6)) 43 (0, 0))) := (hbX.out.block P (lt_of_block HPk.out)).trans HPk.out
  have HbWX : Hid (Below w.heap.size w X) := HbW.out.trans (hbX.out.mono HbW.out.size)
  have Hk2 := Lib.hid hk2
  clear hcf hbb hk2
  go_upto_region 25 with fail
  rw [hX.out, hC.out]
  have c0 := cell_n hCX.out 0 (v := .int .i64 ii) rfl
  have c1 := cell_n hCX.out 1 (v := .int .i64 ti) rfl
  have c2 := cell_n hCX.out 2 (v := .slice ax n1 cax) rfl
  have c3 := cell_n hCX.out 3 (v := .slice ay n2 cay) rfl
  have c4 := cell_n hCX.out 4 (v := .slice az n3 caz) rfl
  have c5 := cell_n hCX.out 5 (v := str qd) rfl
  have d3 := cell_n HPX.out 3 rfl
  have f3 := free_n HPX.out 3
  have d4 := cell_n HPX.out 4 rfl
  have f4 := free_n HPX.out 4
  have d5 := cell_n HPX.out 5 rfl
  have f5 := free_n HPX.out 5
  have d6 := cell_n HPX.out 6 rfl
  have f6 := free_n HPX.out 6
  have d7 := cell_n HPX.out 7 rfl
  have f7 := free_n HPX.out 7
  have d8 := cell_n HPX.out 8 rfl
  have f8 := free_n HPX.out 8
  have d9 := cell_n HPX.out 9 rfl
  have f9 := free_n HPX.out 9
  have d10 := cell_n HPX.out 10 rfl
  have f10 := free_n HPX.out 10
  have d11 := cell_n HPX.out 11 rfl
  have f11 := free_n HPX.out 11
  have d12 := cell_n HPX.out 12 rfl
  have f12 := free_n HPX.out 12
  have d13 := cell_n HPX.out 13 rfl
  have f13 := free_n HPX.out 13
  have d14 := cell_n HPX.out 14 rfl
  have f14 := free_n HPX.out 14
  have hPC : P ≠ C := by have := Hlt.out; omega
  go_upto_region 28 with fail
  obtain ⟨Y, hY⟩ := hide (setFrom (setFrom (setFrom X P 6 [.int .i64 ii, .int .i64 ti, .slice ax n1 cax, .slice ay n2 cay, .slice az n3 caz, str qd]) P 12 [.slice ax n1 cax, .slice ay n2 cay, .slice az n3 caz]) P 3 [.int .i64 ii, .int .i64 ti, .slice none 0 0])
  have hcY : Hid (Chg (fun b => b = P) X Y) := by show Chg _ _ _; rw [← hY.out]; exact ((chg_from P _ X 6).trans (chg_from P _ _ 12)).trans (chg_from P _ _ 3)
  have HPY : Hid (Y.heap[P]? = some (.cells (cellsK { k with si := ii, st := ti, sc := qc, sd := qd, cf := qc, base := ii, bt := ti, es := [] } (.slice none 0 0) (.slice ax n1 cax) (.slice ay n2 cay) (.slice az n3 caz) (.slice ax n1 cax) (.slice ay n2 cay) (.slice az n3 caz)) 43 (0, 0))) := by
    show _ = _
    rw [← hY.out]
    exact from_at (vs := [.int .i64 ii, .int .i64 ti, .slice none 0 0]) (i := 3) (from_at (vs := [.slice ax n1 cax, .slice ay n2 cay, .slice az n3 caz]) (i := 12) (from_at (vs := [.int .i64 ii, .int .i64 ti, .slice ax n1 cax, .slice ay n2 cay, .slice az n3 caz, str qd]) (i := 6) HPX.out))
  have HRY : Hid (Y.heap[R]? = some (.cells zeroKept.toArray 43 (0, 0))) := hcY.out.at HRX.out (fun e => Hlt.out.2.2.1 e.symm)
  have HbWY : Hid (Below w.heap.size w Y) := HbWX.out.trans (hcY.out.toBelow (fun g hg => by have := Hlt.out; omega) HbWX.out.size)
  have HcY : Hid (ConfG (fun b => b ≠ P ∧ b ≠ R ∧ w.heap.size ≤ b) Y (.slice ax n1 cax) (.slice ay n2 cay) (.slice az n3 caz) qc) := HcX.out.frame (hcY.out.agree (fun b hb e => hb.1 e))
  have Hpost : Hid (TakenPost F w o (.returned (.tuple #[.agg (cellsK { k with si := ii, st := ti, sc := qc, sd := qd, cf := qc, base := ii, bt := ti, es := [] } (.slice none 0 0) (.slice ax n1 cax) (.slice ay n2 cay) (.slice az n3 caz) (.slice ax n1 cax) (.slice ay n2 cay) (.slice az n3 caz)), .bool qq])) (setAll Y R (cellsK { k with si := ii, st := ti, sc := qc, sd := qd, cf := qc, base := ii, bt := ti, es := [] } (.slice none 0 0) (.slice ax n1 cax) (.slice ay n2 cay) (.slice az n3 caz) (.slice ax n1 cax) (.slice ay n2 cay) (.slice az n3 caz)).toList)) := by
    have hs := Hsz.out
    have h1 : Below w.heap.size w (setAll Y R (cellsK { k with si := ii, st := ti, sc := qc, sd := qd, cf := qc, base := ii, bt := ti, es := [] } (.slice none 0 0) (.slice ax n1 cax) (.slice ay n2 cay) (.slice az n3 caz) (.slice ax n1 cax) (.slice ay n2 cay) (.slice az n3 caz)).toList) := setAll_below HbWY.out (by omega) _
    have h2 : Chg (fun b => b = R) Y (setAll Y R (cellsK { k with si := ii, st := ti, sc := qc, sd := qd, cf := qc, base := ii, bt := ti, es := [] } (.slice none 0 0) (.slice ax n1 cax) (.slice ay n2 cay) (.slice az n3 caz) (.slice ax n1 cax) (.slice ay n2 cay) (.slice az n3 caz)).toList) := chg_from R _ Y 0
    have h3 : ConfG (NewF F w) _ _ _ _ qc := (HcY.out.frame (h2.agree (fun b hb e => hb.2.1 e))).weak (fun _ h _ => Or.inr h.2.2)
    refine ⟨h1, { k with si := ii, st := ti, sc := qc, sd := qd, cf := qc, base := ii, bt := ti, es := [] }, _, _, _, _, _, _, _, by rw [hqq.out], ?_, h3, h3, Hk2.out⟩
    exact (OwnE.ents (World.ownsRow_nil _ w.heap.size _ _)).weak (Plain.good _) (fun _ h _ => Or.inr h)
  have tq : (zz == 0) = qq := hzz
  clear hzz c0 c1 c2 c3 c4 c5 d3 f3 d4 f4 d5 f5 d6 f6 d7 f7 d8 f8 d9 f9 d10 f10 d11 f11 d12 f12 d13 f13 d14 f14
  show Code.wp _ _ _ _ (setFrom (setFrom (setFrom X P 6 [.int .i64 ii, .int .i64 ti, .slice ax n1 cax, .slice ay n2 cay, .slice az n3 caz, str qd]) P 12 [.slice ax n1 cax, .slice ay n2 cay, .slice az n3 caz]) P 3 [.int .i64 ii, .int .i64 ti, .slice none 0 0])
  rw [hY.out]
  have h9 := setAll_at (HRY.out) (cellsK { k with si := ii, st := ti, sc := qc, sd := qd, cf := qc, base := ii, bt := ti, es := [] } (.slice none 0 0) (.slice ax n1 cax) (.slice ay n2 cay) (.slice az n3 caz) (.slice ax n1 cax) (.slice ay n2 cay) (.slice az n3 caz)).toList rfl
  have H9 := Lib.hid h9
  have Hth : Hid (Y.there R 0 15) := there_ofW (HRY.out)
  have Hbl := Lib.hid (HPY.out)
  clear h9
  go_upto_region 28 with fail
  refine wp_region_lit ?_
  refine wpList_load_row rfl 43 (.tmp 2) rfl P rfl 43 (cellsK { k with si := ii, st := ti, sc := qc, sd := qd, cf := qc, base := ii, bt := ti, es := [] } (.slice none 0 0) (.slice ax n1 cax) (.slice ay n2 cay) (.slice az n3 caz) (.slice ax n1 cax) (.slice ay n2 cay) (.slice az n3 caz)) (0, 0) _ Hbl.out Tryz.underlying43 rfl size_kept ?_
  iterate 6 go_step
  refine wpList_store_mid rfl 43 (.tmp 4) (.tmp 129) rfl R 0 (cellsK { k with si := ii, st := ti, sc := qc, sd := qd, cf := qc, base := ii, bt := ti, es := [] } (.slice none 0 0) (.slice ax n1 cax) (.slice ay n2 cay) (.slice az n3 caz) (.slice ax n1 cax) (.slice ay n2 cay) (.slice az n3 caz)) rfl rfl Hth.out size_kept (by simp [Value.oneCell']) ?_
  rw [setCells_eqW]
  show wpList _ _ _ _ _ (setAll Y R (cellsK { k with si := ii, st := ti, sc := qc, sd := qd, cf := qc, base := ii, bt := ti, es := [] } (.slice none 0 0) (.slice ax n1 cax) (.slice ay n2 cay) (.slice az n3 caz) (.slice ax n1 cax) (.slice ay n2 cay) (.slice az n3 caz)).toList)
  generalize setAll Y R (cellsK { k with si := ii, st := ti, sc := qc, sd := qd, cf := qc, base := ii, bt := ti, es := [] } (.slice none 0 0) (.slice ax n1 cax) (.slice ay n2 cay) (.slice az n3 caz) (.slice ax n1 cax) (.slice ay n2 cay) (.slice az n3 caz)).toList = W9 at H9 Hpost ⊢
  go_wp2_with fail
  refine bodyPost_ret (results_cell_tmp rfl _ W9 R 43 (cellsK { k with si := ii, st := ti, sc := qc, sd := qd, cf := qc, base := ii, bt := ti, es := [] } (.slice none 0 0) (.slice ax n1 cax) (.slice ay n2 cay) (.slice az n3 caz) (.slice ax n1 cax) (.slice ay n2 cay) (.slice az n3 caz)) (0, 0) _ rfl H9.out Tryz.underlying43 rfl size_kept) rfl ?_
  exact Hpost.out
end Go.Proofs.YtjlhlmnoomiblaaGreat
