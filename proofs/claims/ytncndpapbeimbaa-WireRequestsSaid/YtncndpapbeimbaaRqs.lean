/-
  Reading requests, the document's way: the walk.
-/
import Derived.Test.YtncndpapbeimbaaRqc
import Derived.Test.YtncndpapbeimbaaRqf
import Derived.Test.YtncndpapbeimbaaRc
namespace Go.Proofs.Ytncndpapbeimbaa
open Go.RowKit Wm Mm
set_option linter.unusedVariables false

/-- the result's cell, the request's cell, the reader -/
structure Stg (w W : World) (B : Nat) (x0 x1 x2 x3 x4 x5 x6 : Value) (σ : St) : Prop where
  res : W.heap[B]? = some (.cells zero7 25 (0, 0))
  req : W.heap[B + 1 + 1]? = some (.cells #[x0, x1, x2, x3, x4, x5, x6] 25 (0, 0))
  rs : Rs W (B + 1) σ
  below : Below B w W
theorem Stg.step {w W W' : World} {B : Nat} {x0 x1 x2 x3 x4 x5 x6 : Value} {σ σ' : St} (h : Stg w W B x0 x1 x2 x3 x4 x5 x6 σ) (hr : Rs W' (B + 1) σ') (hg : W.grownBy W' (some (B + 1))) : Stg w W' B x0 x1 x2 x3 x4 x5 x6 σ' :=
  ⟨(hg.block _ (lt_of_block h.res) (by simp)).trans h.res, (hg.block _ (lt_of_block h.req) (by simp)).trans h.req, hr,
    h.below.trans ⟨hg.os, hg.tape, hg.output, hg.size, fun k hk => hg.block k (by have := lt_of_block h.res; omega) (by simp; omega)⟩⟩
theorem Rs.other {w : World} {b : Nat} {σ : St} (h : Rs w b σ) {a : Addr} (ha : a.block ≠ b) (v : Value) : Rs (w.setCell a v) b σ := by
  cases σ with
  | ok s => exact ⟨hp_set_other h.1 ha, h.2⟩
  | error z => exact ⟨hp_set_other h.1 ha, h.2⟩
theorem Stg.put0 {w W : World} {B : Nat} {x0 x1 x2 x3 x4 x5 x6 : Value} {σ : St} (h : Stg w W B x0 x1 x2 x3 x4 x5 x6 σ) (v : Value) : Stg w (W.setCell ⟨B + 1 + 1, 0, none⟩ v) B v x1 x2 x3 x4 x5 x6 σ :=
  ⟨hp_set_other h.res (by simp; omega), by rw [heap_setCell]; simp [h.req, storeIn], h.rs.other (by simp) v, h.below.setCell (p := ⟨B + 1 + 1, 0, none⟩) (by simp; omega) v⟩
theorem Stg.put1 {w W : World} {B : Nat} {x0 x1 x2 x3 x4 x5 x6 : Value} {σ : St} (h : Stg w W B x0 x1 x2 x3 x4 x5 x6 σ) (v : Value) : Stg w (W.setCell ⟨B + 1 + 1, 1, none⟩ v) B x0 v x2 x3 x4 x5 x6 σ :=
  ⟨hp_set_other h.res (by simp; omega), by rw [heap_setCell]; simp [h.req, storeIn], h.rs.other (by simp) v, h.below.setCell (p := ⟨B + 1 + 1, 1, none⟩) (by simp; omega) v⟩
theorem Stg.put2 {w W : World} {B : Nat} {x0 x1 x2 x3 x4 x5 x6 : Value} {σ : St} (h : Stg w W B x0 x1 x2 x3 x4 x5 x6 σ) (v : Value) : Stg w (W.setCell ⟨B + 1 + 1, 2, none⟩ v) B x0 x1 v x3 x4 x5 x6 σ :=
  ⟨hp_set_other h.res (by simp; omega), by rw [heap_setCell]; simp [h.req, storeIn], h.rs.other (by simp) v, h.below.setCell (p := ⟨B + 1 + 1, 2, none⟩) (by simp; omega) v⟩
theorem Stg.put3 {w W : World} {B : Nat} {x0 x1 x2 x3 x4 x5 x6 : Value} {σ : St} (h : Stg w W B x0 x1 x2 x3 x4 x5 x6 σ) (v : Value) : Stg w (W.setCell ⟨B + 1 + 1, 3, none⟩ v) B x0 x1 x2 v x4 x5 x6 σ :=
  ⟨hp_set_other h.res (by simp; omega), by rw [heap_setCell]; simp [h.req, storeIn], h.rs.other (by simp) v, h.below.setCell (p := ⟨B + 1 + 1, 3, none⟩) (by simp; omega) v⟩
theorem Stg.put4 {w W : World} {B : Nat} {x0 x1 x2 x3 x4 x5 x6 : Value} {σ : St} (h : Stg w W B x0 x1 x2 x3 x4 x5 x6 σ) (v : Value) : Stg w (W.setCell ⟨B + 1 + 1, 4, none⟩ v) B x0 x1 x2 x3 v x5 x6 σ :=
  ⟨hp_set_other h.res (by simp; omega), by rw [heap_setCell]; simp [h.req, storeIn], h.rs.other (by simp) v, h.below.setCell (p := ⟨B + 1 + 1, 4, none⟩) (by simp; omega) v⟩
theorem Stg.put5 {w W : World} {B : Nat} {x0 x1 x2 x3 x4 x5 x6 : Value} {σ : St} (h : Stg w W B x0 x1 x2 x3 x4 x5 x6 σ) (v : Value) : Stg w (W.setCell ⟨B + 1 + 1, 5, none⟩ v) B x0 x1 x2 x3 x4 v x6 σ :=
  ⟨hp_set_other h.res (by simp; omega), by rw [heap_setCell]; simp [h.req, storeIn], h.rs.other (by simp) v, h.below.setCell (p := ⟨B + 1 + 1, 5, none⟩) (by simp; omega) v⟩
theorem Stg.put6 {w W : World} {B : Nat} {x0 x1 x2 x3 x4 x5 x6 : Value} {σ : St} (h : Stg w W B x0 x1 x2 x3 x4 x5 x6 σ) (v : Value) : Stg w (W.setCell ⟨B + 1 + 1, 6, none⟩ v) B x0 x1 x2 x3 x4 x5 v σ :=
  ⟨hp_set_other h.res (by simp; omega), by rw [heap_setCell]; simp [h.req, storeIn], h.rs.other (by simp) v, h.below.setCell (p := ⟨B + 1 + 1, 6, none⟩) (by simp; omega) v⟩
theorem Stg.alloc {w W : World} {B : Nat} {x0 x1 x2 x3 x4 x5 x6 : Value} {σ : St} (h : Stg w W B x0 x1 x2 x3 x4 x5 x6 σ) (o : Obj) : Stg w (W.alloc o) B x0 x1 x2 x3 x4 x5 x6 σ :=
  ⟨(hp_past _ _ (by have := lt_of_block h.res; omega)).trans h.res, (hp_past _ _ (by have := lt_of_block h.req; omega)).trans h.req, h.rs.kept (World.grownBy_alloc W _ none) (by simp), h.below.alloc (by have := lt_of_block h.res; omega) _⟩
def GotB (B : Nat) (w : World) (res : Except Int Req) (e : Ending) (w' : World) : Prop :=
  match res with
  | .ok q => e = .returned (.tuple #[vR q, .int .i64 0]) ∧ Below B w w'
  | .error z => e = .returned (.tuple #[zReq, .int .i64 z]) ∧ Below B w w'

set_option maxHeartbeats 2000000 in
theorem ref_getRequest (s : List UInt8) (w : World) (hs : s.length ≤ 9223372036854775807) :
    Calls Try.prog 7 #[str s] w (GotReq w (full (rdReq s))) := by
  rw [← ref_same]
  have h0 : Stg w (((w.alloc (.cells zero7 25)).alloc (.cells #[str s, .int .i64 0] 50)).alloc (.cells zero7 25)) w.heap.size (.int .i64 0) (.int .i64 0) (.int .i64 0) (str []) (str []) (.int .i64 0) (.int .i64 0) (.ok s) := by
    refine ⟨(hp_past _ _ (by simp only [World.size_alloc]; omega)).trans ((hp_past _ _ (by simp only [World.size_alloc]; omega)).trans (hp_at _ _ rfl)), hp_at _ _ (by simp only [World.size_alloc]), ⟨(hp_past _ _ (by simp only [World.size_alloc]; omega)).trans (hp_at _ _ (by simp only [World.size_alloc])), hs⟩, ?_⟩
    exact (((Below.refl _ _).alloc (Nat.le_refl _) _).alloc (by simp) _).alloc (by simp; omega) _
  obtain ⟨V0, hV⟩ := hide (((w.alloc (.cells zero7 25)).alloc (.cells #[str s, .int .i64 0] 50)).alloc (.cells zero7 25))
  rw [hV.out] at h0
  unfold refRun
  obtain ⟨c, hc⟩ := hide (stepV 0 rdNum (.ok s))
  obtain ⟨σ1, hs1⟩ := hide (stepS rdNum (.ok s))
  rw [hc.out, hs1.out]
  obtain ⟨n, hn⟩ := hide (stepV 0 rdNum σ1)
  obtain ⟨σ2, hs2⟩ := hide (stepS rdNum σ1)
  rw [hn.out, hs2.out]
  obtain ⟨t, ht⟩ := hide (stepV 0 rdNum σ2)
  obtain ⟨σ3, hs3⟩ := hide (stepS rdNum σ2)
  rw [ht.out, hs3.out]
  obtain ⟨F, hF⟩ := hide (refCmd c n t σ3)
  rw [hF.out]
  have H0 := Lib.hid h0
  clear h0
  obtain ⟨B, hB⟩ := hide w.heap.size
  change Calls _ _ _ _ (GotB w.heap.size w (closeS F.1 F.2))
  rw [hB.out] at H0 ⊢
  obtain ⟨post, HP⟩ := hide (GotB B w (closeS F.1 F.2))
  rw [HP.out]
  go_enter Try.func7, Try.ntmps7
  go_wp2_with fail
  rw [hV.out, hB.out]
  refine (number_rs H0.out.rs).mono ?_
  rw [hc.out, hs1.out]
  rintro e v1 ⟨rfl, hr, hg⟩
  have G1 := Lib.hid (H0.out.step hr hg)
  have H1 := Lib.hid (G1.out.put0 (.int .i64 c))
  clear hr hg
  obtain ⟨q0, q1, q2, q3, q4, q5, q6⟩ := seven_cells G1.out.req
  have f0 := seven_free (i := 0) G1.out.req
  have f1 := seven_free (i := 1) G1.out.req
  have f2 := seven_free (i := 2) G1.out.req
  have f3 := seven_free (i := 3) G1.out.req
  have f4 := seven_free (i := 4) G1.out.req
  have f5 := seven_free (i := 5) G1.out.req
  have f6 := seven_free (i := 6) G1.out.req
  go_wp2_with fail
  clear q0 q1 q2 q3 q4 q5 q6 f0 f1 f2 f3 f4 f5 f6
  refine (number_rs H1.out.rs).mono ?_
  rw [hn.out, hs2.out]
  rintro e v2 ⟨rfl, hr, hg⟩
  have G2 := Lib.hid (H1.out.step hr hg)
  have H2 := Lib.hid (G2.out.put1 (.int .i64 n))
  clear hr hg
  obtain ⟨q0, q1, q2, q3, q4, q5, q6⟩ := seven_cells G2.out.req
  have f0 := seven_free (i := 0) G2.out.req
  have f1 := seven_free (i := 1) G2.out.req
  have f2 := seven_free (i := 2) G2.out.req
  have f3 := seven_free (i := 3) G2.out.req
  have f4 := seven_free (i := 4) G2.out.req
  have f5 := seven_free (i := 5) G2.out.req
  have f6 := seven_free (i := 6) G2.out.req
  go_wp2_with fail
  clear q0 q1 q2 q3 q4 q5 q6 f0 f1 f2 f3 f4 f5 f6
  refine (number_rs H2.out.rs).mono ?_
  rw [ht.out, hs3.out]
  rintro e v3 ⟨rfl, hr, hg⟩
  have G3 := Lib.hid (H2.out.step hr hg)
  have H3 := Lib.hid (G3.out.put6 (.int .i64 t))
  clear hr hg
  obtain ⟨q0, q1, q2, q3, q4, q5, q6⟩ := seven_cells G3.out.req
  have f0 := seven_free (i := 0) G3.out.req
  have f1 := seven_free (i := 1) G3.out.req
  have f2 := seven_free (i := 2) G3.out.req
  have f3 := seven_free (i := 3) G3.out.req
  have f4 := seven_free (i := 4) G3.out.req
  have f5 := seven_free (i := 5) G3.out.req
  have f6 := seven_free (i := 6) G3.out.req
  go_upto_region 6 with fail
  obtain ⟨V3, hV3⟩ := hide (v3.setCell ⟨B + 1 + 1, 6, none⟩ (.int .i64 t))
  rw [hV3.out] at H3 ⊢
  clear q0 q1 q2 q3 q4 q5 q6 f0 f1 f2 f3 f4 f5 f6
  by_cases hz : c = 0
  · have EF : Hid (F = (⟨0, n, ⟨0, [], [], 0⟩, t⟩, σ3)) := by show _ = _; rw [← hF.out, refCmd, if_pos hz, hz]
    subst hz
    obtain ⟨q0, q1, q2, q3, q4, q5, q6⟩ := seven_cells H3.out.req
    have f0 := seven_free (i := 0) H3.out.req
    have f1 := seven_free (i := 1) H3.out.req
    have f2 := seven_free (i := 2) H3.out.req
    have f3 := seven_free (i := 3) H3.out.req
    have f4 := seven_free (i := 4) H3.out.req
    have f5 := seven_free (i := 5) H3.out.req
    have f6 := seven_free (i := 6) H3.out.req
    go_wp2_with fail
    clear q0 q1 q2 q3 q4 q5 q6 f0 f1 f2 f3 f4 f5 f6
    obtain ⟨z, hz9⟩ := hide (endS σ3)
    refine (end_rs H3.out.rs).mono ?_
    rw [hz9.out]
    rintro e v9 ⟨rfl, hg⟩
    have hx9 := (hg.block B (lt_of_block H3.out.res) (by simp)).trans H3.out.res
    have hq9 := (hg.block (B + 1 + 1) (lt_of_block H3.out.req) (by simp)).trans H3.out.req
    have hb9 : Below B w v9 := H3.out.below.trans ⟨hg.os, hg.tape, hg.output, hg.size, fun k hk => hg.block k (by have := lt_of_block H3.out.res; omega) (by simp; omega)⟩
    clear hg
    obtain ⟨c0, c1, c2, c3, c4, c5, c6⟩ := seven_cells hx9
    have f0 := seven_free (i := 0) hx9
    have f1 := seven_free (i := 1) hx9
    have f2 := seven_free (i := 2) hx9
    have f3 := seven_free (i := 3) hx9
    have f4 := seven_free (i := 4) hx9
    have f5 := seven_free (i := 5) hx9
    have f6 := seven_free (i := 6) hx9
    obtain ⟨q0, q1, q2, q3, q4, q5, q6⟩ := seven_cells hq9
    by_cases h9 : z = 0
    · have hcl : closeS F.1 F.2 = .ok ⟨0, n, ⟨0, [], [], 0⟩, t⟩ := by rw [EF.out]; simp only [closeS]; rw [hz9.out, h9]; rfl
      subst h9
      have HE := Lib.hid (set7_at hx9 (.int .i64 (0 : Nat)) (.int .i64 (n : Nat)) (.int .i64 (0 : Nat)) (str []) (str []) (.int .i64 (0 : Nat)) (.int .i64 (t : Nat)))
      have HB := Lib.hid (set7_below hb9 (Nat.le_refl _) (.int .i64 (0 : Nat)) (.int .i64 (n : Nat)) (.int .i64 (0 : Nat)) (str []) (str []) (.int .i64 (0 : Nat)) (.int .i64 (t : Nat)))
      have HCL := Lib.hid hcl
      clear hx9 hq9 hb9 hcl
      go_wp2_with fail
      change bodyPost _ _ _ Exit.ret _ (set7 v9 B (.int .i64 (0 : Nat)) (.int .i64 (n : Nat)) (.int .i64 (0 : Nat)) (str []) (str []) (.int .i64 (0 : Nat)) (.int .i64 (t : Nat)))
      generalize set7 v9 B (.int .i64 (0 : Nat)) (.int .i64 (n : Nat)) (.int .i64 (0 : Nat)) (str []) (str []) (.int .i64 (0 : Nat)) (.int .i64 (t : Nat)) = W5 at HE HB ⊢
      clear c0 c1 c2 c3 c4 c5 c6
      obtain ⟨c0, c1, c2, c3, c4, c5, c6⟩ := seven_cells HE.out
      refine bodyPost_ret (by simp [results, Try.results7, go_sem, c0, c1, c2, c3, c4, c5, c6]; rfl) rfl ?_
      rw [← HP.out, HCL.out]
      exact ⟨rfl, HB.out⟩
    · have hcl : closeS F.1 F.2 = .error z := by
        rw [EF.out]; simp only [closeS]; rw [hz9.out]
        split <;> first | rfl | (exact absurd rfl h9) | (rename_i h; exact absurd h h9)
      have hz0 : (z == 0) = false := beq_eq_false_iff_ne.2 h9
      have hz1 : (z != 0) = true := bne_iff_ne.2 h9
      clear h9
      have HE := Lib.hid (set7_at hx9 (.int .i64 (0 : Nat)) (.int .i64 (0 : Nat)) (.int .i64 (0 : Nat)) (str []) (str []) (.int .i64 (0 : Nat)) (.int .i64 (0 : Nat)))
      have HB := Lib.hid (set7_below hb9 (Nat.le_refl _) (.int .i64 (0 : Nat)) (.int .i64 (0 : Nat)) (.int .i64 (0 : Nat)) (str []) (str []) (.int .i64 (0 : Nat)) (.int .i64 (0 : Nat)))
      have HCL := Lib.hid hcl
      clear hx9 hq9 hb9 hcl
      go_wp2_with fail
      change bodyPost _ _ _ Exit.ret _ (set7 v9 B (.int .i64 (0 : Nat)) (.int .i64 (0 : Nat)) (.int .i64 (0 : Nat)) (str []) (str []) (.int .i64 (0 : Nat)) (.int .i64 (0 : Nat)))
      generalize set7 v9 B (.int .i64 (0 : Nat)) (.int .i64 (0 : Nat)) (.int .i64 (0 : Nat)) (str []) (str []) (.int .i64 (0 : Nat)) (.int .i64 (0 : Nat)) = W5 at HE HB ⊢
      clear c0 c1 c2 c3 c4 c5 c6
      obtain ⟨c0, c1, c2, c3, c4, c5, c6⟩ := seven_cells HE.out
      refine bodyPost_ret (by simp [results, Try.results7, go_sem, c0, c1, c2, c3, c4, c5, c6]; rfl) rfl ?_
      rw [← HP.out, HCL.out]
      exact ⟨rfl, HB.out⟩
  · have EF0 := hF.out
    rw [refCmd, if_neg hz] at EF0
    obtain ⟨k, hk⟩ := hide (stepV 0 rdNum σ3)
    obtain ⟨σ4, hs4⟩ := hide (stepS rdNum σ3)
    rw [hk.out, hs4.out] at EF0
    obtain ⟨key, hkey⟩ := hide (stepV [] (rdText 16) σ4)
    obtain ⟨σ5, hs5⟩ := hide (stepS (rdText 16) σ4)
    rw [hkey.out, hs5.out] at EF0
    obtain ⟨val, hval⟩ := hide (stepV [] (rdText 64) σ5)
    obtain ⟨σ6, hs6⟩ := hide (stepS (rdText 64) σ5)
    rw [hval.out, hs6.out] at EF0
    obtain ⟨i, hi⟩ := hide (stepV 0 rdNum σ6)
    obtain ⟨σ7, hs7⟩ := hide (stepS rdNum σ6)
    rw [hi.out, hs7.out] at EF0
    have EF1 := Lib.hid EF0.symm
    clear EF0
    obtain ⟨q0, q1, q2, q3, q4, q5, q6⟩ := seven_cells H3.out.req
    have f0 := seven_free (i := 0) H3.out.req
    have f1 := seven_free (i := 1) H3.out.req
    have f2 := seven_free (i := 2) H3.out.req
    have f3 := seven_free (i := 3) H3.out.req
    have f4 := seven_free (i := 4) H3.out.req
    have f5 := seven_free (i := 5) H3.out.req
    have f6 := seven_free (i := 6) H3.out.req
    have hcz : ((c : Int) == 0) = false := beq_eq_false_iff_ne.2 (by omega)
    go_wp2_with fail
    clear q0 q1 q2 q3 q4 q5 q6 f0 f1 f2 f3 f4 f5 f6
    refine (number_rs H3.out.rs).mono ?_
    rw [hk.out, hs4.out]
    rintro e v4 ⟨rfl, hr, hg⟩
    have G4 := Lib.hid (H3.out.step hr hg)
    have H4 := Lib.hid (G4.out.put2 (.int .i64 k))
    clear hr hg
    obtain ⟨q0, q1, q2, q3, q4, q5, q6⟩ := seven_cells G4.out.req
    have f0 := seven_free (i := 0) G4.out.req
    have f1 := seven_free (i := 1) G4.out.req
    have f2 := seven_free (i := 2) G4.out.req
    have f3 := seven_free (i := 3) G4.out.req
    have f4 := seven_free (i := 4) G4.out.req
    have f5 := seven_free (i := 5) G4.out.req
    have f6 := seven_free (i := 6) G4.out.req
    go_wp2_with fail
    clear q0 q1 q2 q3 q4 q5 q6 f0 f1 f2 f3 f4 f5 f6
    refine (text_rs 16 H4.out.rs).mono ?_
    rw [hkey.out, hs5.out]
    rintro e v5 ⟨rfl, hr, hg⟩
    have G5 := Lib.hid (H4.out.step hr hg)
    have H5 := Lib.hid (G5.out.put3 (str key))
    clear hr hg
    obtain ⟨q0, q1, q2, q3, q4, q5, q6⟩ := seven_cells G5.out.req
    have f0 := seven_free (i := 0) G5.out.req
    have f1 := seven_free (i := 1) G5.out.req
    have f2 := seven_free (i := 2) G5.out.req
    have f3 := seven_free (i := 3) G5.out.req
    have f4 := seven_free (i := 4) G5.out.req
    have f5 := seven_free (i := 5) G5.out.req
    have f6 := seven_free (i := 6) G5.out.req
    go_wp2_with fail
    clear q0 q1 q2 q3 q4 q5 q6 f0 f1 f2 f3 f4 f5 f6
    refine (text_rs 64 H5.out.rs).mono ?_
    rw [hval.out, hs6.out]
    rintro e v6 ⟨rfl, hr, hg⟩
    have G6 := Lib.hid (H5.out.step hr hg)
    have H6 := Lib.hid (G6.out.put4 (str val))
    clear hr hg
    obtain ⟨q0, q1, q2, q3, q4, q5, q6⟩ := seven_cells G6.out.req
    have f0 := seven_free (i := 0) G6.out.req
    have f1 := seven_free (i := 1) G6.out.req
    have f2 := seven_free (i := 2) G6.out.req
    have f3 := seven_free (i := 3) G6.out.req
    have f4 := seven_free (i := 4) G6.out.req
    have f5 := seven_free (i := 5) G6.out.req
    have f6 := seven_free (i := 6) G6.out.req
    go_wp2_with fail
    clear q0 q1 q2 q3 q4 q5 q6 f0 f1 f2 f3 f4 f5 f6
    refine (number_rs H6.out.rs).mono ?_
    rw [hi.out, hs7.out]
    rintro e v7 ⟨rfl, hr, hg⟩
    have G7 := Lib.hid (H6.out.step hr hg)
    have H7 := Lib.hid (G7.out.put5 (.int .i64 i))
    clear hr hg
    obtain ⟨q0, q1, q2, q3, q4, q5, q6⟩ := seven_cells G7.out.req
    have f0 := seven_free (i := 0) G7.out.req
    have f1 := seven_free (i := 1) G7.out.req
    have f2 := seven_free (i := 2) G7.out.req
    have f3 := seven_free (i := 3) G7.out.req
    have f4 := seven_free (i := 4) G7.out.req
    have f5 := seven_free (i := 5) G7.out.req
    have f6 := seven_free (i := 6) G7.out.req
    go_upto_region 11 with fail
    obtain ⟨V7, hV7⟩ := hide (v7.setCell ⟨B + 1 + 1, 5, none⟩ (.int .i64 i))
    rw [hV7.out] at H7 ⊢
    clear q0 q1 q2 q3 q4 q5 q6 f0 f1 f2 f3 f4 f5 f6
    obtain ⟨q0, q1, q2, q3, q4, q5, q6⟩ := seven_cells H7.out.req
    have f0 := seven_free (i := 0) H7.out.req
    have f1 := seven_free (i := 1) H7.out.req
    have f2 := seven_free (i := 2) H7.out.req
    have f3 := seven_free (i := 3) H7.out.req
    have f4 := seven_free (i := 4) H7.out.req
    have f5 := seven_free (i := 5) H7.out.req
    have f6 := seven_free (i := 6) H7.out.req
    go_wp2_with fail
    refine (ref_isCommand _ _ _ _ _).mono ?_
    rintro e V8 ⟨rfl, hv8⟩
    have h8 := H7.out.alloc (.cells #[.int .i64 k, str key, str val, .int .i64 i] 23)
    rw [hv8] at h8
    have H8 := Lib.hid h8
    clear hv8 h8
    clear q0 q1 q2 q3 q4 q5 q6 f0 f1 f2 f3 f4 f5 f6
    cases hi8 : isCommand k key val i with
    | false =>
      have EF : Hid (F = (⟨c, n, ⟨k, key, val, i⟩, t⟩, badS 5 σ7)) := by show _ = _; rw [EF1.out, hi8]; rfl
      clear hi8 EF1
      go_wp2_with fail
      refine (bad_rs 5 (by decide) H8.out.rs).mono ?_
      rintro e V9 ⟨rfl, hr, hg⟩
      have H9 := Lib.hid (H8.out.step hr hg)
      clear hr hg
      go_wp2_with fail
      obtain ⟨z, hz9⟩ := hide (endS (badS 5 σ7))
      refine (end_rs H9.out.rs).mono ?_
      rw [hz9.out]
      rintro e v9 ⟨rfl, hg⟩
      have hx9 := (hg.block B (lt_of_block H9.out.res) (by simp)).trans H9.out.res
      have hq9 := (hg.block (B + 1 + 1) (lt_of_block H9.out.req) (by simp)).trans H9.out.req
      have hb9 : Below B w v9 := H9.out.below.trans ⟨hg.os, hg.tape, hg.output, hg.size, fun k hk => hg.block k (by have := lt_of_block H9.out.res; omega) (by simp; omega)⟩
      clear hg
      obtain ⟨c0, c1, c2, c3, c4, c5, c6⟩ := seven_cells hx9
      have f0 := seven_free (i := 0) hx9
      have f1 := seven_free (i := 1) hx9
      have f2 := seven_free (i := 2) hx9
      have f3 := seven_free (i := 3) hx9
      have f4 := seven_free (i := 4) hx9
      have f5 := seven_free (i := 5) hx9
      have f6 := seven_free (i := 6) hx9
      obtain ⟨q0, q1, q2, q3, q4, q5, q6⟩ := seven_cells hq9
      by_cases h9 : z = 0
      · have hcl : closeS F.1 F.2 = .ok ⟨c, n, ⟨k, key, val, i⟩, t⟩ := by rw [EF.out]; simp only [closeS]; rw [hz9.out, h9]; rfl
        subst h9
        have HE := Lib.hid (set7_at hx9 (.int .i64 (c : Nat)) (.int .i64 (n : Nat)) (.int .i64 (k : Nat)) (str key) (str val) (.int .i64 (i : Nat)) (.int .i64 (t : Nat)))
        have HB := Lib.hid (set7_below hb9 (Nat.le_refl _) (.int .i64 (c : Nat)) (.int .i64 (n : Nat)) (.int .i64 (k : Nat)) (str key) (str val) (.int .i64 (i : Nat)) (.int .i64 (t : Nat)))
        have HCL := Lib.hid hcl
        clear hx9 hq9 hb9 hcl
        go_wp2_with fail
        change bodyPost _ _ _ Exit.ret _ (set7 v9 B (.int .i64 (c : Nat)) (.int .i64 (n : Nat)) (.int .i64 (k : Nat)) (str key) (str val) (.int .i64 (i : Nat)) (.int .i64 (t : Nat)))
        generalize set7 v9 B (.int .i64 (c : Nat)) (.int .i64 (n : Nat)) (.int .i64 (k : Nat)) (str key) (str val) (.int .i64 (i : Nat)) (.int .i64 (t : Nat)) = W5 at HE HB ⊢
        clear c0 c1 c2 c3 c4 c5 c6
        obtain ⟨c0, c1, c2, c3, c4, c5, c6⟩ := seven_cells HE.out
        refine bodyPost_ret (by simp [results, Try.results7, go_sem, c0, c1, c2, c3, c4, c5, c6]; rfl) rfl ?_
        rw [← HP.out, HCL.out]
        exact ⟨rfl, HB.out⟩
      · have hcl : closeS F.1 F.2 = .error z := by
          rw [EF.out]; simp only [closeS]; rw [hz9.out]
          split <;> first | rfl | (exact absurd rfl h9) | (rename_i h; exact absurd h h9)
        have hz0 : (z == 0) = false := beq_eq_false_iff_ne.2 h9
        have hz1 : (z != 0) = true := bne_iff_ne.2 h9
        clear h9
        have HE := Lib.hid (set7_at hx9 (.int .i64 (0 : Nat)) (.int .i64 (0 : Nat)) (.int .i64 (0 : Nat)) (str []) (str []) (.int .i64 (0 : Nat)) (.int .i64 (0 : Nat)))
        have HB := Lib.hid (set7_below hb9 (Nat.le_refl _) (.int .i64 (0 : Nat)) (.int .i64 (0 : Nat)) (.int .i64 (0 : Nat)) (str []) (str []) (.int .i64 (0 : Nat)) (.int .i64 (0 : Nat)))
        have HCL := Lib.hid hcl
        clear hx9 hq9 hb9 hcl
        go_wp2_with fail
        change bodyPost _ _ _ Exit.ret _ (set7 v9 B (.int .i64 (0 : Nat)) (.int .i64 (0 : Nat)) (.int .i64 (0 : Nat)) (str []) (str []) (.int .i64 (0 : Nat)) (.int .i64 (0 : Nat)))
        generalize set7 v9 B (.int .i64 (0 : Nat)) (.int .i64 (0 : Nat)) (.int .i64 (0 : Nat)) (str []) (str []) (.int .i64 (0 : Nat)) (.int .i64 (0 : Nat)) = W5 at HE HB ⊢
        clear c0 c1 c2 c3 c4 c5 c6
        obtain ⟨c0, c1, c2, c3, c4, c5, c6⟩ := seven_cells HE.out
        refine bodyPost_ret (by simp [results, Try.results7, go_sem, c0, c1, c2, c3, c4, c5, c6]; rfl) rfl ?_
        rw [← HP.out, HCL.out]
        exact ⟨rfl, HB.out⟩
    | true =>
      have EF : Hid (F = (⟨c, n, ⟨k, key, val, i⟩, t⟩, σ7)) := by show _ = _; rw [EF1.out, hi8]; rfl
      clear hi8 EF1
      go_wp2_with fail
      obtain ⟨z, hz9⟩ := hide (endS σ7)
      refine (end_rs H8.out.rs).mono ?_
      rw [hz9.out]
      rintro e v9 ⟨rfl, hg⟩
      have hx9 := (hg.block B (lt_of_block H8.out.res) (by simp)).trans H8.out.res
      have hq9 := (hg.block (B + 1 + 1) (lt_of_block H8.out.req) (by simp)).trans H8.out.req
      have hb9 : Below B w v9 := H8.out.below.trans ⟨hg.os, hg.tape, hg.output, hg.size, fun k hk => hg.block k (by have := lt_of_block H8.out.res; omega) (by simp; omega)⟩
      clear hg
      obtain ⟨c0, c1, c2, c3, c4, c5, c6⟩ := seven_cells hx9
      have f0 := seven_free (i := 0) hx9
      have f1 := seven_free (i := 1) hx9
      have f2 := seven_free (i := 2) hx9
      have f3 := seven_free (i := 3) hx9
      have f4 := seven_free (i := 4) hx9
      have f5 := seven_free (i := 5) hx9
      have f6 := seven_free (i := 6) hx9
      obtain ⟨q0, q1, q2, q3, q4, q5, q6⟩ := seven_cells hq9
      by_cases h9 : z = 0
      · have hcl : closeS F.1 F.2 = .ok ⟨c, n, ⟨k, key, val, i⟩, t⟩ := by rw [EF.out]; simp only [closeS]; rw [hz9.out, h9]; rfl
        subst h9
        have HE := Lib.hid (set7_at hx9 (.int .i64 (c : Nat)) (.int .i64 (n : Nat)) (.int .i64 (k : Nat)) (str key) (str val) (.int .i64 (i : Nat)) (.int .i64 (t : Nat)))
        have HB := Lib.hid (set7_below hb9 (Nat.le_refl _) (.int .i64 (c : Nat)) (.int .i64 (n : Nat)) (.int .i64 (k : Nat)) (str key) (str val) (.int .i64 (i : Nat)) (.int .i64 (t : Nat)))
        have HCL := Lib.hid hcl
        clear hx9 hq9 hb9 hcl
        go_wp2_with fail
        change bodyPost _ _ _ Exit.ret _ (set7 v9 B (.int .i64 (c : Nat)) (.int .i64 (n : Nat)) (.int .i64 (k : Nat)) (str key) (str val) (.int .i64 (i : Nat)) (.int .i64 (t : Nat)))
        generalize set7 v9 B (.int .i64 (c : Nat)) (.int .i64 (n : Nat)) (.int .i64 (k : Nat)) (str key) (str val) (.int .i64 (i : Nat)) (.int .i64 (t : Nat)) = W5 at HE HB ⊢
        clear c0 c1 c2 c3 c4 c5 c6
        obtain ⟨c0, c1, c2, c3, c4, c5, c6⟩ := seven_cells HE.out
        refine bodyPost_ret (by simp [results, Try.results7, go_sem, c0, c1, c2, c3, c4, c5, c6]; rfl) rfl ?_
        rw [← HP.out, HCL.out]
        exact ⟨rfl, HB.out⟩
      · have hcl : closeS F.1 F.2 = .error z := by
          rw [EF.out]; simp only [closeS]; rw [hz9.out]
          split <;> first | rfl | (exact absurd rfl h9) | (rename_i h; exact absurd h h9)
        have hz0 : (z == 0) = false := beq_eq_false_iff_ne.2 h9
        have hz1 : (z != 0) = true := bne_iff_ne.2 h9
        clear h9
        have HE := Lib.hid (set7_at hx9 (.int .i64 (0 : Nat)) (.int .i64 (0 : Nat)) (.int .i64 (0 : Nat)) (str []) (str []) (.int .i64 (0 : Nat)) (.int .i64 (0 : Nat)))
        have HB := Lib.hid (set7_below hb9 (Nat.le_refl _) (.int .i64 (0 : Nat)) (.int .i64 (0 : Nat)) (.int .i64 (0 : Nat)) (str []) (str []) (.int .i64 (0 : Nat)) (.int .i64 (0 : Nat)))
        have HCL := Lib.hid hcl
        clear hx9 hq9 hb9 hcl
        go_wp2_with fail
        change bodyPost _ _ _ Exit.ret _ (set7 v9 B (.int .i64 (0 : Nat)) (.int .i64 (0 : Nat)) (.int .i64 (0 : Nat)) (str []) (str []) (.int .i64 (0 : Nat)) (.int .i64 (0 : Nat)))
        generalize set7 v9 B (.int .i64 (0 : Nat)) (.int .i64 (0 : Nat)) (.int .i64 (0 : Nat)) (str []) (str []) (.int .i64 (0 : Nat)) (.int .i64 (0 : Nat)) = W5 at HE HB ⊢
        clear c0 c1 c2 c3 c4 c5 c6
        obtain ⟨c0, c1, c2, c3, c4, c5, c6⟩ := seven_cells HE.out
        refine bodyPost_ret (by simp [results, Try.results7, go_sem, c0, c1, c2, c3, c4, c5, c6]; rfl) rfl ?_
        rw [← HP.out, HCL.out]
        exact ⟨rfl, HB.out⟩
end Go.Proofs.Ytncndpapbeimbaa
