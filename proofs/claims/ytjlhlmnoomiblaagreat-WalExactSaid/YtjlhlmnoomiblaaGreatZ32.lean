/-
  What files say, read by the document: a record on what is known (taken).
-/
import Derived.Test.YtjlhlmnoomiblaaGreatZ21
import Derived.Test.YtjlhlmnoomiblaaGreatZ31
namespace Go.Proofs.YtjlhlmnoomiblaaGreat
open Go.RowKit Wm Mm Lg Fl
set_option linter.unusedVariables false
set_option linter.unusedSimpArgs false

/-- the blocks of F, and new ones -/
def NewF (F : Nat → Prop) (w : World) : Nat → Prop := fun b => F b ∨ w.heap.size ≤ b
theorem ConfG.fresh {F : Nat → Prop} {w w' : World} {x y z : Value} {c : Conf} (h : ConfG F w x y z c) (hb : Below w.heap.size w w') : ConfG (NewF F w) w' x y z c := (h.frame (Agree.below hb)).weak (fun _ h _ => Or.inl h)
/-- what taken hands back -/
def TakenPost (F : Nat → Prop) (w : World) (o : Option Kp) (e : Ending) (w' : World) : Prop :=
  Below w.heap.size w w' ∧ ∃ k3 ev x y z cx cy cz, e = .returned (.tuple #[.agg (cellsK k3 ev x y z cx cy cz), .bool o.isSome]) ∧ Ents (NewF F w) w' ev k3.es ∧ ConfG (NewF F w) w' x y z k3.sc ∧ ConfG (NewF F w) w' cx cy cz k3.cf ∧ ∀ k2, o = some k2 → k3 = k2
theorem results_cell_tmp {P : Program} {fn : Func} {p q : Tmp} {ty : TypeId} (h : fn.results = #[.cell p ty, .tmp q]) (tmps : Array Value) (w : World) (g : Nat) (t : TypeId) (cs : Array Value) (fr : Nat × Nat) (d : TypeDesc)
    (hp : tmps.getD p undef = .pointer (some ⟨g, 0, none⟩)) (hg : w.heap[g]? = some (.cells cs t fr))
    (hu : P.underlying ty = some d) (hd : (match d with | .struct _ | .array _ _ => true | _ => false) = true) (hi : (P.info? ty).map (·.size) = some cs.size) :
    (results fn tmps).run P w = .ok (.tuple #[.agg cs, tmps.getD q undef]) w := by
  have hp' : tmps[p]?.getD undef = .pointer (some ⟨g, 0, none⟩) := by simpa using hp
  simp [results, h, hp', asAddr, run_loadVar_row w g t ty cs fr d hg hu hd hi]
set_option maxHeartbeats 4000000 in
set_option maxRecDepth 100000 in
theorem taken_nil (k : Kp) (ev x y z cx cy cz : Value) (F : Nat → Prop) (w : World) (hE : Ents F w ev k.es) (hc : ConfG F w x y z k.sc) (hcf : ConfG F w cx cy cz k.cf) :
    Calls Tryz.prog 31 #[.agg (cellsK k ev x y z cx cy cz), str []] w (TakenPost F w none) := by
  obtain ⟨ao1, cp1, rfl, _⟩ := len_of_Ints hc.conf.v
  obtain ⟨ao2, cp2, rfl, _⟩ := len_of_Ints hc.conf.n
  obtain ⟨ao3, cp3, rfl, _⟩ := len_of_Ints hc.conf.l
  obtain ⟨ao4, cp4, rfl, _⟩ := len_of_Ints hcf.conf.v
  obtain ⟨ao5, cp5, rfl, _⟩ := len_of_Ints hcf.conf.n
  obtain ⟨ao6, cp6, rfl, _⟩ := len_of_Ints hcf.conf.l
  obtain ⟨ae, ce, rfl, _, _⟩ := hE.slice
  obtain ⟨W, hW⟩ := hide ((w.alloc (.cells #[.int .i64 k.t, .int .i64 k.v, .int .i64 k.c, .int .i64 k.base, .int .i64 k.bt, .slice ae k.es.length ce, .int .i64 k.si, .int .i64 k.st, .slice ao1 k.sc.v.length cp1, .slice ao2 k.sc.n.length cp2, .slice ao3 k.sc.l.length cp3, str k.sd, .slice ao4 k.cf.v.length cp4, .slice ao5 k.cf.n.length cp5, .slice ao6 k.cf.l.length cp6] 43)).alloc (.cells #[.int .i64 0, .int .i64 0, .int .i64 0, .int .i64 0, .int .i64 0, .slice none 0 0, .int .i64 0, .int .i64 0, .slice none 0 0, .slice none 0 0, .slice none 0 0, .string ⟨#[]⟩, .slice none 0 0, .slice none 0 0, .slice none 0 0] 43))
  have hz : W.heap.size = w.heap.size + 2 := by rw [← hW.out]; simp
  have hb : Below w.heap.size w W := by rw [← hW.out]; exact ((Below.refl _ _).alloc (Nat.le_refl _) _).alloc (by simp) _
  obtain ⟨P, hP⟩ := hide w.heap.size
  obtain ⟨R, hR⟩ := hide (w.heap.size + 1)
  have HR : Hid (W.heap[R]? = some (.cells zeroKept.toArray 43 (0, 0))) := by show _ = _; rw [← hW.out, ← hR.out]; exact hp_at _ _ (by simp)
  have HPk : Hid (W.heap[P]? = some (.cells (cellsK k (.slice ae k.es.length ce) (.slice ao1 k.sc.v.length cp1) (.slice ao2 k.sc.n.length cp2) (.slice ao3 k.sc.l.length cp3) (.slice ao4 k.cf.v.length cp4) (.slice ao5 k.cf.n.length cp5) (.slice ao6 k.cf.l.length cp6)) 43 (0, 0))) := by show _ = _; rw [← hW.out, ← hP.out]; exact (hp_past _ _ (by simp)).trans (hp_at _ _ rfl)
  have HbW : Hid (Below w.heap.size w W) := hb
  have Hsz : Hid (W.heap.size = w.heap.size + 2 ∧ P = w.heap.size ∧ R = w.heap.size + 1) := ⟨hz, hP.out.symm, hR.out.symm⟩
  have HE := Lib.hid hE
  have HC := Lib.hid hc
  have HCf := Lib.hid hcf
  clear hE hc hcf hb hz
  have Hpost : Hid (TakenPost F w none (.returned (.tuple #[.agg (cellsK k (.slice ae k.es.length ce) (.slice ao1 k.sc.v.length cp1) (.slice ao2 k.sc.n.length cp2) (.slice ao3 k.sc.l.length cp3) (.slice ao4 k.cf.v.length cp4) (.slice ao5 k.cf.n.length cp5) (.slice ao6 k.cf.l.length cp6)), .bool false])) (setAll W R (cellsK k (.slice ae k.es.length ce) (.slice ao1 k.sc.v.length cp1) (.slice ao2 k.sc.n.length cp2) (.slice ao3 k.sc.l.length cp3) (.slice ao4 k.cf.v.length cp4) (.slice ao5 k.cf.n.length cp5) (.slice ao6 k.cf.l.length cp6)).toList)) := by
    have hs := Hsz.out
    have h1 : Below w.heap.size w (setAll W R (cellsK k (.slice ae k.es.length ce) (.slice ao1 k.sc.v.length cp1) (.slice ao2 k.sc.n.length cp2) (.slice ao3 k.sc.l.length cp3) (.slice ao4 k.cf.v.length cp4) (.slice ao5 k.cf.n.length cp5) (.slice ao6 k.cf.l.length cp6)).toList) := setAll_below HbW.out (by omega) _
    refine ⟨h1, k, _, _, _, _, _, _, _, rfl, ?_, HC.out.fresh h1, HCf.out.fresh h1, fun _ h => by cases h⟩
    exact (HE.out.frame (Plain.good _) (Agree.below h1)).weak (Plain.good _) (fun _ h _ => Or.inl h)
  have h9 := setAll_at (HR.out) (cellsK k (.slice ae k.es.length ce) (.slice ao1 k.sc.v.length cp1) (.slice ao2 k.sc.n.length cp2) (.slice ao3 k.sc.l.length cp3) (.slice ao4 k.cf.v.length cp4) (.slice ao5 k.cf.n.length cp5) (.slice ao6 k.cf.l.length cp6)).toList rfl
  have H9 := Lib.hid h9
  have Hth : Hid (W.there R 0 15) := there_ofW (HR.out)
  have Hbl := Lib.hid (HPk.out)
  clear h9
  go_enter Tryz.func31, Tryz.ntmps31
  go_upto_region 1 with fail
  rw [hW.out, hR.out, hP.out]
  go_upto_region 2 with fail
  refine wp_region_lit ?_
  refine wpList_load_row rfl 43 (.tmp 2) rfl P rfl 43 (cellsK k (.slice ae k.es.length ce) (.slice ao1 k.sc.v.length cp1) (.slice ao2 k.sc.n.length cp2) (.slice ao3 k.sc.l.length cp3) (.slice ao4 k.cf.v.length cp4) (.slice ao5 k.cf.n.length cp5) (.slice ao6 k.cf.l.length cp6)) (0, 0) _ Hbl.out Tryz.underlying43 rfl size_kept ?_
  refine wpList_store_mid rfl 43 (.tmp 4) (.tmp 18) rfl R 0 (cellsK k (.slice ae k.es.length ce) (.slice ao1 k.sc.v.length cp1) (.slice ao2 k.sc.n.length cp2) (.slice ao3 k.sc.l.length cp3) (.slice ao4 k.cf.v.length cp4) (.slice ao5 k.cf.n.length cp5) (.slice ao6 k.cf.l.length cp6)) rfl rfl Hth.out size_kept (by simp [Value.oneCell']) ?_
  rw [setCells_eqW]
  show wpList _ _ _ _ _ (setAll W R (cellsK k (.slice ae k.es.length ce) (.slice ao1 k.sc.v.length cp1) (.slice ao2 k.sc.n.length cp2) (.slice ao3 k.sc.l.length cp3) (.slice ao4 k.cf.v.length cp4) (.slice ao5 k.cf.n.length cp5) (.slice ao6 k.cf.l.length cp6)).toList)
  generalize setAll W R (cellsK k (.slice ae k.es.length ce) (.slice ao1 k.sc.v.length cp1) (.slice ao2 k.sc.n.length cp2) (.slice ao3 k.sc.l.length cp3) (.slice ao4 k.cf.v.length cp4) (.slice ao5 k.cf.n.length cp5) (.slice ao6 k.cf.l.length cp6)).toList = W9 at H9 Hpost ⊢
  go_wp2_with fail
  refine bodyPost_ret (results_cell_tmp rfl _ W9 R 43 (cellsK k (.slice ae k.es.length ce) (.slice ao1 k.sc.v.length cp1) (.slice ao2 k.sc.n.length cp2) (.slice ao3 k.sc.l.length cp3) (.slice ao4 k.cf.v.length cp4) (.slice ao5 k.cf.n.length cp5) (.slice ao6 k.cf.l.length cp6)) (0, 0) _ rfl H9.out Tryz.underlying43 rfl size_kept) rfl ?_
  exact Hpost.out
set_option maxHeartbeats 4000000 in
set_option maxRecDepth 100000 in
theorem taken_other (k : Kp) (ev x y z cx cy cz : Value) (F : Nat → Prop) (w : World) (hE : Ents F w ev k.es) (hc : ConfG F w x y z k.sc) (hcf : ConfG F w cx cy cz k.cf) (s : List UInt8) (b : UInt8) (r : List UInt8) (hs : Body s b r) (hr : s.length ≤ 9223372036854775806) (h1 : b ≠ 1) (h2 : b ≠ 2) (h3 : b ≠ 3) :
    Calls Tryz.prog 31 #[.agg (cellsK k ev x y z cx cy cz), str s] w (TakenPost F w none) := by
  obtain ⟨ao1, cp1, rfl, _⟩ := len_of_Ints hc.conf.v
  obtain ⟨ao2, cp2, rfl, _⟩ := len_of_Ints hc.conf.n
  obtain ⟨ao3, cp3, rfl, _⟩ := len_of_Ints hc.conf.l
  obtain ⟨ao4, cp4, rfl, _⟩ := len_of_Ints hcf.conf.v
  obtain ⟨ao5, cp5, rfl, _⟩ := len_of_Ints hcf.conf.n
  obtain ⟨ao6, cp6, rfl, _⟩ := len_of_Ints hcf.conf.l
  obtain ⟨ae, ce, rfl, _, _⟩ := hE.slice
  obtain ⟨W, hW⟩ := hide ((w.alloc (.cells #[.int .i64 k.t, .int .i64 k.v, .int .i64 k.c, .int .i64 k.base, .int .i64 k.bt, .slice ae k.es.length ce, .int .i64 k.si, .int .i64 k.st, .slice ao1 k.sc.v.length cp1, .slice ao2 k.sc.n.length cp2, .slice ao3 k.sc.l.length cp3, str k.sd, .slice ao4 k.cf.v.length cp4, .slice ao5 k.cf.n.length cp5, .slice ao6 k.cf.l.length cp6] 43)).alloc (.cells #[.int .i64 0, .int .i64 0, .int .i64 0, .int .i64 0, .int .i64 0, .slice none 0 0, .int .i64 0, .int .i64 0, .slice none 0 0, .slice none 0 0, .slice none 0 0, .string ⟨#[]⟩, .slice none 0 0, .slice none 0 0, .slice none 0 0] 43))
  have hz : W.heap.size = w.heap.size + 2 := by rw [← hW.out]; simp
  have hb : Below w.heap.size w W := by rw [← hW.out]; exact ((Below.refl _ _).alloc (Nat.le_refl _) _).alloc (by simp) _
  obtain ⟨P, hP⟩ := hide w.heap.size
  obtain ⟨R, hR⟩ := hide (w.heap.size + 1)
  have HR : Hid (W.heap[R]? = some (.cells zeroKept.toArray 43 (0, 0))) := by show _ = _; rw [← hW.out, ← hR.out]; exact hp_at _ _ (by simp)
  have HPk : Hid (W.heap[P]? = some (.cells (cellsK k (.slice ae k.es.length ce) (.slice ao1 k.sc.v.length cp1) (.slice ao2 k.sc.n.length cp2) (.slice ao3 k.sc.l.length cp3) (.slice ao4 k.cf.v.length cp4) (.slice ao5 k.cf.n.length cp5) (.slice ao6 k.cf.l.length cp6)) 43 (0, 0))) := by show _ = _; rw [← hW.out, ← hP.out]; exact (hp_past _ _ (by simp)).trans (hp_at _ _ rfl)
  have HbW : Hid (Below w.heap.size w W) := hb
  have Hsz : Hid (W.heap.size = w.heap.size + 2 ∧ P = w.heap.size ∧ R = w.heap.size + 1) := ⟨hz, hP.out.symm, hR.out.symm⟩
  have HE := Lib.hid hE
  have HC := Lib.hid hc
  have HCf := Lib.hid hcf
  clear hE hc hcf hb hz
  obtain ⟨hl, hd, t0, hb1⟩ := hs
  have t1 : ((s[0].toNat : Int) == 1) = false := by rw [hb1]; exact beq_eq_false_iff_ne.2 (fun e => h1 (UInt8.toNat_inj.1 (by show b.toNat = 1; omega)))
  have t2 : ((s[0].toNat : Int) == 2) = false := by rw [hb1]; exact beq_eq_false_iff_ne.2 (fun e => h2 (UInt8.toNat_inj.1 (by show b.toNat = 2; omega)))
  have t3 : ((s[0].toNat : Int) == 3) = false := by rw [hb1]; exact beq_eq_false_iff_ne.2 (fun e => h3 (UInt8.toNat_inj.1 (by show b.toNat = 3; omega)))
  have hl1 : 1 ≤ s.length := hl
  clear h1 h2 h3 hb1
  obtain ⟨V, hV⟩ := hide (W.alloc (.cells #[str r, .int .i64 0] 112))
  have hbV : Hid (Below W.heap.size W V) := by show Below _ _ _; rw [← hV.out]; exact (Below.refl _ _).alloc (Nat.le_refl _) _
  have HRV : Hid (V.heap[R]? = some (.cells zeroKept.toArray 43 (0, 0))) := (hbV.out.block R (lt_of_block HR.out)).trans HR.out
  have HPV : Hid (V.heap[P]? = some (.cells (cellsK k (.slice ae k.es.length ce) (.slice ao1 k.sc.v.length cp1) (.slice ao2 k.sc.n.length cp2) (.slice ao3 k.sc.l.length cp3) (.slice ao4 k.cf.v.length cp4) (.slice ao5 k.cf.n.length cp5) (.slice ao6 k.cf.l.length cp6)) 43 (0, 0))) := (hbV.out.block P (lt_of_block HPk.out)).trans HPk.out
  have HbWV : Hid (Below w.heap.size w V) := HbW.out.trans (hbV.out.mono HbW.out.size)
  have Hpost : Hid (TakenPost F w none (.returned (.tuple #[.agg (cellsK k (.slice ae k.es.length ce) (.slice ao1 k.sc.v.length cp1) (.slice ao2 k.sc.n.length cp2) (.slice ao3 k.sc.l.length cp3) (.slice ao4 k.cf.v.length cp4) (.slice ao5 k.cf.n.length cp5) (.slice ao6 k.cf.l.length cp6)), .bool false])) (setAll V R (cellsK k (.slice ae k.es.length ce) (.slice ao1 k.sc.v.length cp1) (.slice ao2 k.sc.n.length cp2) (.slice ao3 k.sc.l.length cp3) (.slice ao4 k.cf.v.length cp4) (.slice ao5 k.cf.n.length cp5) (.slice ao6 k.cf.l.length cp6)).toList)) := by
    have hs := Hsz.out
    have h1 : Below w.heap.size w (setAll V R (cellsK k (.slice ae k.es.length ce) (.slice ao1 k.sc.v.length cp1) (.slice ao2 k.sc.n.length cp2) (.slice ao3 k.sc.l.length cp3) (.slice ao4 k.cf.v.length cp4) (.slice ao5 k.cf.n.length cp5) (.slice ao6 k.cf.l.length cp6)).toList) := setAll_below HbWV.out (by omega) _
    refine ⟨h1, k, _, _, _, _, _, _, _, rfl, ?_, HC.out.fresh h1, HCf.out.fresh h1, fun _ h => by cases h⟩
    exact (HE.out.frame (Plain.good _) (Agree.below h1)).weak (Plain.good _) (fun _ h _ => Or.inl h)
  have h9 := setAll_at (HRV.out) (cellsK k (.slice ae k.es.length ce) (.slice ao1 k.sc.v.length cp1) (.slice ao2 k.sc.n.length cp2) (.slice ao3 k.sc.l.length cp3) (.slice ao4 k.cf.v.length cp4) (.slice ao5 k.cf.n.length cp5) (.slice ao6 k.cf.l.length cp6)).toList rfl
  have H9 := Lib.hid h9
  have Hth : Hid (V.there R 0 15) := there_ofW (HRV.out)
  have Hbl := Lib.hid (HPV.out)
  clear h9
  go_enter Tryz.func31, Tryz.ntmps31
  go_upto_region 1 with fail
  rw [hW.out, hR.out, hP.out]
  go_upto_region 4 with fail
  rw [hV.out]
  go_upto_region 29 with fail
  refine wp_region_lit ?_
  refine wpList_load_row rfl 43 (.tmp 2) rfl P rfl 43 (cellsK k (.slice ae k.es.length ce) (.slice ao1 k.sc.v.length cp1) (.slice ao2 k.sc.n.length cp2) (.slice ao3 k.sc.l.length cp3) (.slice ao4 k.cf.v.length cp4) (.slice ao5 k.cf.n.length cp5) (.slice ao6 k.cf.l.length cp6)) (0, 0) _ Hbl.out Tryz.underlying43 rfl size_kept ?_
  refine wpList_store_mid rfl 43 (.tmp 4) (.tmp 132) rfl R 0 (cellsK k (.slice ae k.es.length ce) (.slice ao1 k.sc.v.length cp1) (.slice ao2 k.sc.n.length cp2) (.slice ao3 k.sc.l.length cp3) (.slice ao4 k.cf.v.length cp4) (.slice ao5 k.cf.n.length cp5) (.slice ao6 k.cf.l.length cp6)) rfl rfl Hth.out size_kept (by simp [Value.oneCell']) ?_
  rw [setCells_eqW]
  show wpList _ _ _ _ _ (setAll V R (cellsK k (.slice ae k.es.length ce) (.slice ao1 k.sc.v.length cp1) (.slice ao2 k.sc.n.length cp2) (.slice ao3 k.sc.l.length cp3) (.slice ao4 k.cf.v.length cp4) (.slice ao5 k.cf.n.length cp5) (.slice ao6 k.cf.l.length cp6)).toList)
  generalize setAll V R (cellsK k (.slice ae k.es.length ce) (.slice ao1 k.sc.v.length cp1) (.slice ao2 k.sc.n.length cp2) (.slice ao3 k.sc.l.length cp3) (.slice ao4 k.cf.v.length cp4) (.slice ao5 k.cf.n.length cp5) (.slice ao6 k.cf.l.length cp6)).toList = W9 at H9 Hpost ⊢
  go_wp2_with fail
  refine bodyPost_ret (results_cell_tmp rfl _ W9 R 43 (cellsK k (.slice ae k.es.length ce) (.slice ao1 k.sc.v.length cp1) (.slice ao2 k.sc.n.length cp2) (.slice ao3 k.sc.l.length cp3) (.slice ao4 k.cf.v.length cp4) (.slice ao5 k.cf.n.length cp5) (.slice ao6 k.cf.l.length cp6)) (0, 0) _ rfl H9.out Tryz.underlying43 rfl size_kept) rfl ?_
  exact Hpost.out
end Go.Proofs.YtjlhlmnoomiblaaGreat
