/-
  Reading snapshots, the document's way; both ways agree.
-/
import Derived.Test.YtkcllpbbjlbfaaaEf
import Derived.Test.YtkcllpbbjlbfaaaSg
namespace Go.Proofs.Ytkcllpbbjlbfaaa
open Go.RowKit Wm Mm
set_option linter.unusedVariables false

def snapS (σ : St) : Snap × St :=
  let i := stepV 0 rdNum σ
  let σ1 := stepS rdNum σ
  let t := stepV 0 rdNum σ1
  let σ2 := stepS rdNum σ1
  let k := confS σ2
  let d := stepV [] (rdText 8192) k.2
  let σ4 := stepS (rdText 8192) k.2
  (⟨i, t, k.1, d⟩, if isSnap i t k.1 d = true then σ4 else badS 6 σ4)

set_option maxHeartbeats 4000000 in
theorem snapshot_rs {b : Nat} {σ : St} {w : World} (h : Rs w b σ) :
    Calls Try.prog 33 #[.pointer (some ⟨b, 0, none⟩)] w fun e w' => ∃ x y z, e = .returned (vSnap (snapS σ).1.index (snapS σ).1.term x y z (snapS σ).1.data) ∧ Config3F w.heap.size w' x y z (snapS σ).1.conf ∧ Rs w' b (snapS σ).2 ∧ w.grownBy w' (some b) := by
  obtain ⟨F, hF⟩ := hide (snapS σ)
  rw [hF.out]
  unfold snapS at hF
  simp only [] at hF
  have hbw : b < w.heap.size := Rs.lt h
  obtain ⟨V0, hV⟩ := hide ((w.alloc (.cells #[.int .i64 0, .int .i64 0, .slice none 0 0, .slice none 0 0, .slice none 0 0, str []] 27)).alloc (.cells #[.int .i64 0, .int .i64 0, .slice none 0 0, .slice none 0 0, .slice none 0 0, str []] 27))
  have h0 : Stage w V0 b w.heap.size 27 [.int .i64 0, .int .i64 0, .slice none 0 0, .slice none 0 0, .slice none 0 0, str []] [.int .i64 0, .int .i64 0, .slice none 0 0, .slice none 0 0, .slice none 0 0, str []] σ := by
    rw [← hV.out]
    refine ⟨(hp_past _ _ (by simp only [World.size_alloc]; omega)).trans (hp_at _ _ rfl), hp_at _ _ (by simp only [World.size_alloc]), ?_, ?_⟩
    · exact (h.kept (World.grownBy_alloc w _ none) (by simp)).kept (World.grownBy_alloc _ _ none) (by simp)
    · exact grown_trans (World.grownBy_alloc w _ _) (World.grownBy_alloc _ _ _)
  have Hbw := Lib.hid hbw
  have Hle : Hid (w.heap.size ≤ w.heap.size) := Nat.le_refl _
  have H0 := Lib.hid h0
  obtain ⟨i, hv1⟩ := hide (stepV 0 rdNum σ)
  obtain ⟨σ1, hs1⟩ := hide (stepS rdNum σ)
  rw [hv1.out, hs1.out] at hF
  obtain ⟨t, hv2⟩ := hide (stepV 0 rdNum σ1)
  obtain ⟨σ2, hs2⟩ := hide (stepS rdNum σ1)
  rw [hv2.out, hs2.out] at hF
  obtain ⟨k3, hk3⟩ := hide (confS σ2)
  rw [hk3.out] at hF
  obtain ⟨d, hv4⟩ := hide (stepV [] (rdText 8192) k3.2)
  obtain ⟨σ4, hs4⟩ := hide (stepS (rdText 8192) k3.2)
  rw [hv4.out, hs4.out] at hF
  clear h h0 hbw
  obtain ⟨B, hB⟩ := hide w.heap.size
  rw [hB.out] at H0 Hbw
  have Hle : Hid (w.heap.size ≤ B) := by rw [hB.out]; exact Nat.le_refl _
  go_enter Try.func33, Try.ntmps33
  go_wp2_with fail
  rw [hV.out, hB.out]
  refine (number_rs H0.out.rs).mono ?_
  rw [hv1.out, hs1.out]
  rintro e v1 ⟨rfl, hr, hg⟩
  have G1 := Lib.hid (H0.out.step Hbw.out hr hg)
  have H1 := Lib.hid ((G1.out.put Hbw.out Hle.out 0 (.int .i64 (i : Nat))))
  clear hr hg
  have q0 := cell_n G1.out.req 0 (v := .int .i64 0) rfl
  have f0 := free_n G1.out.req 0
  have q1 := cell_n G1.out.req 1 (v := .int .i64 0) rfl
  have f1 := free_n G1.out.req 1
  have q2 := cell_n G1.out.req 2 (v := .slice none 0 0) rfl
  have f2 := free_n G1.out.req 2
  have q3 := cell_n G1.out.req 3 (v := .slice none 0 0) rfl
  have f3 := free_n G1.out.req 3
  have q4 := cell_n G1.out.req 4 (v := .slice none 0 0) rfl
  have f4 := free_n G1.out.req 4
  have q5 := cell_n G1.out.req 5 (v := str []) rfl
  have f5 := free_n G1.out.req 5
  go_wp2_with fail
  clear q0 f0 q1 f1 q2 f2 q3 f3 q4 f4 q5 f5
  refine (number_rs H1.out.rs).mono ?_
  rw [hv2.out, hs2.out]
  rintro e v2 ⟨rfl, hr, hg⟩
  have G2 := Lib.hid (H1.out.step Hbw.out hr hg)
  have H2 := Lib.hid ((G2.out.put Hbw.out Hle.out 1 (.int .i64 (t : Nat))))
  clear hr hg
  have q0 := cell_n G2.out.req 0 (v := .int .i64 (i : Nat)) rfl
  have f0 := free_n G2.out.req 0
  have q1 := cell_n G2.out.req 1 (v := .int .i64 0) rfl
  have f1 := free_n G2.out.req 1
  have q2 := cell_n G2.out.req 2 (v := .slice none 0 0) rfl
  have f2 := free_n G2.out.req 2
  have q3 := cell_n G2.out.req 3 (v := .slice none 0 0) rfl
  have f3 := free_n G2.out.req 3
  have q4 := cell_n G2.out.req 4 (v := .slice none 0 0) rfl
  have f4 := free_n G2.out.req 4
  have q5 := cell_n G2.out.req 5 (v := str []) rfl
  have f5 := free_n G2.out.req 5
  go_wp2_with fail
  clear q0 f0 q1 f1 q2 f2 q3 f3 q4 f4 q5 f5
  refine (config_rs H2.out.rs).mono ?_
  rw [hk3.out]
  rintro e v3 ⟨x3, y3, z3, rfl, hcf, hr, hg⟩
  obtain ⟨aox3, cpx3, rfl⟩ := hcf.v.len
  obtain ⟨aoy3, cpy3, rfl⟩ := hcf.n.len
  obtain ⟨aoz3, cpz3, rfl⟩ := hcf.l.len
  have HI3 : Hid (Config3F (B + 2) v3 (.slice aox3 k3.1.v.length cpx3) (.slice aoy3 k3.1.n.length cpy3) (.slice aoz3 k3.1.l.length cpz3) k3.1) := hcf.base (by have := lt_of_block H2.out.req; omega)
  clear hcf
  have G3 := Lib.hid (H2.out.step Hbw.out hr hg)
  have H3 := Lib.hid ((((G3.out.put Hbw.out Hle.out 2 (.slice aox3 k3.1.v.length cpx3)).put Hbw.out Hle.out 3 (.slice aoy3 k3.1.n.length cpy3)).put Hbw.out Hle.out 4 (.slice aoz3 k3.1.l.length cpz3)))
  clear hr hg
  have q0 := cell_n G3.out.req 0 (v := .int .i64 (i : Nat)) rfl
  have f0 := free_n G3.out.req 0
  have q1 := cell_n G3.out.req 1 (v := .int .i64 (t : Nat)) rfl
  have f1 := free_n G3.out.req 1
  have q2 := cell_n G3.out.req 2 (v := .slice none 0 0) rfl
  have f2 := free_n G3.out.req 2
  have q3 := cell_n G3.out.req 3 (v := .slice none 0 0) rfl
  have f3 := free_n G3.out.req 3
  have q4 := cell_n G3.out.req 4 (v := .slice none 0 0) rfl
  have f4 := free_n G3.out.req 4
  have q5 := cell_n G3.out.req 5 (v := str []) rfl
  have f5 := free_n G3.out.req 5
  go_wp2_with fail
  clear q0 f0 q1 f1 q2 f2 q3 f3 q4 f4 q5 f5
  refine (text_rs 8192 H3.out.rs).mono ?_
  rw [hv4.out, hs4.out]
  rintro e v4 ⟨rfl, hr, hg⟩
  have HI3' := Lib.hid (((((HI3.out.up (S' := B + 2) (Up.setCell (B + 2) _ (a := ⟨B + 1, 2, none⟩) (by simp) (.slice aox3 k3.1.v.length cpx3)) (Nat.le_refl _)).up (S' := B + 2) (Up.setCell (B + 2) _ (a := ⟨B + 1, 3, none⟩) (by simp) (.slice aoy3 k3.1.n.length cpy3)) (Nat.le_refl _)).up (S' := B + 2) (Up.setCell (B + 2) _ (a := ⟨B + 1, 4, none⟩) (by simp) (.slice aoz3 k3.1.l.length cpz3)) (Nat.le_refl _))).up (Up.ofGrown hg (by have := Hbw.out; omega)) (Nat.le_refl _))
  clear HI3
  have HI3 := HI3'
  clear HI3'
  have G4 := Lib.hid (H3.out.step Hbw.out hr hg)
  have H4 := Lib.hid ((G4.out.put Hbw.out Hle.out 5 (str d)))
  clear hr hg
  have q0 := cell_n G4.out.req 0 (v := .int .i64 (i : Nat)) rfl
  have f0 := free_n G4.out.req 0
  have q1 := cell_n G4.out.req 1 (v := .int .i64 (t : Nat)) rfl
  have f1 := free_n G4.out.req 1
  have q2 := cell_n G4.out.req 2 (v := .slice aox3 k3.1.v.length cpx3) rfl
  have f2 := free_n G4.out.req 2
  have q3 := cell_n G4.out.req 3 (v := .slice aoy3 k3.1.n.length cpy3) rfl
  have f3 := free_n G4.out.req 3
  have q4 := cell_n G4.out.req 4 (v := .slice aoz3 k3.1.l.length cpz3) rfl
  have f4 := free_n G4.out.req 4
  have q5 := cell_n G4.out.req 5 (v := str []) rfl
  have f5 := free_n G4.out.req 5
  go_upto_region 6 with fail
  clear q0 f0 q1 f1 q2 f2 q3 f3 q4 f4 q5 f5
  obtain ⟨W4, hW4⟩ := hide (v4.setCell ⟨B + 1, 5, none⟩ (str d))
  change Code.wp _ _ _ _ (v4.setCell ⟨B + 1, 5, none⟩ (str d))
  rw [hW4.out]
  have H9 : Hid (Stage w W4 b B 27 [.int .i64 0, .int .i64 0, .slice none 0 0, .slice none 0 0, .slice none 0 0, str []] [.int .i64 (i : Nat), .int .i64 (t : Nat), .slice aox3 k3.1.v.length cpx3, .slice aoy3 k3.1.n.length cpy3, .slice aoz3 k3.1.l.length cpz3, str d] σ4) := by rw [← hW4.out]; exact H4.out
  have HJ3 := Lib.hid (HI3.out.up (w' := W4) (S' := B + 2) (by rw [← hW4.out]; exact Up.setCell (B + 2) _ (a := ⟨B + 1, 5, none⟩) (by simp) (str d)) (Nat.le_refl _))
  have q0 := cell_n H9.out.req 0 (v := .int .i64 (i : Nat)) rfl
  have q1 := cell_n H9.out.req 1 (v := .int .i64 (t : Nat)) rfl
  have q2 := cell_n H9.out.req 2 (v := .slice aox3 k3.1.v.length cpx3) rfl
  have q3 := cell_n H9.out.req 3 (v := .slice aoy3 k3.1.n.length cpy3) rfl
  have q4 := cell_n H9.out.req 4 (v := .slice aoz3 k3.1.l.length cpz3) rfl
  have q5 := cell_n H9.out.req 5 (v := str d) rfl
  have HV := Lib.hid (ref_isSnapshot i t _ _ _ k3.1 d W4 HJ3.out.conf)
  go_wp2_with fail
  refine HV.out.mono ?_
  rintro e w5 ⟨rfl, hb5⟩
  clear q0 q1 q2 q3 q4 q5
  have hq5 := (hb5.block _ (lt_of_block H9.out.req)).trans H9.out.req
  have hc5 := (hb5.block _ (lt_of_block H9.out.res)).trans H9.out.res
  have hr5 : Rs w5 b σ4 := H9.out.rs.kept (below_grown hb5 none) (by simp)
  have hg5 : w.grownBy w5 (some b) := grown_trans H9.out.grown (below_grown hb5 _)
  have HK3 := Lib.hid (HJ3.out.up (S' := B + 2) (Up.ofBelow hb5) (Nat.le_refl _))
  have Hq5 := Lib.hid hq5
  have Hc5 := Lib.hid hc5
  have Hr5 := Lib.hid hr5
  have Hg5 := Lib.hid hg5
  clear hq5 hc5 hr5 hg5 hb5
  cases hok : isSnap i t k3.1 d with
  | false =>
    have EF : Hid (F = ((⟨i, t, k3.1, d⟩ : Snap), (badS 6 σ4))) := by show _ = _; rw [← hF.out, if_neg (by simp [hok])]
    clear hok
    go_wp2_with fail
    refine (bad_rs 6 (by decide) Hr5.out).mono ?_
    rintro e w6 ⟨rfl, hr6, hg6⟩
    have hq6 := (hg6.block _ (lt_of_block Hq5.out) (by have := Hbw.out; simp; omega)).trans Hq5.out
    have hc6 := (hg6.block _ (lt_of_block Hc5.out) (by have := Hbw.out; simp; omega)).trans Hc5.out
    have hgg6 := grown_trans Hg5.out hg6
    have HM3 := Lib.hid (HK3.out.up (S' := B + 2) (Up.ofGrown hg6 (by have := Hbw.out; omega)) (Nat.le_refl _))
    clear hg6
    have he := setAll_at hc6 [.int .i64 (i : Nat), .int .i64 (t : Nat), .slice aox3 k3.1.v.length cpx3, .slice aoy3 k3.1.n.length cpy3, .slice aoz3 k3.1.l.length cpz3, str d] rfl
    have hre : Rs (setAll w6 B [.int .i64 (i : Nat), .int .i64 (t : Nat), .slice aox3 k3.1.v.length cpx3, .slice aoy3 k3.1.n.length cpy3, .slice aoz3 k3.1.l.length cpz3, str d]) b (badS 6 σ4) := Rs.setAll' hr6 (by have := Hbw.out; omega) _
    have hge := setAll_grown hgg6 Hle.out [.int .i64 (i : Nat), .int .i64 (t : Nat), .slice aox3 k3.1.v.length cpx3, .slice aoy3 k3.1.n.length cpy3, .slice aoz3 k3.1.l.length cpz3, str d]
    have HL3 := Lib.hid (HM3.out.up (w' := setAll w6 B [.int .i64 (i : Nat), .int .i64 (t : Nat), .slice aox3 k3.1.v.length cpx3, .slice aoy3 k3.1.n.length cpy3, .slice aoz3 k3.1.l.length cpz3, str d]) (S' := B + 2) (Up.setAll _ w6 (by omega) _) (Nat.le_refl _))
    have He := Lib.hid he
    have Hre := Lib.hid hre
    have Hge := Lib.hid hge
    have q0 := cell_n hq6 0 (v := .int .i64 (i : Nat)) rfl
    have c0 := cell_n hc6 0 (v := .int .i64 0) rfl
    have f0 := free_n hc6 0
    have q1 := cell_n hq6 1 (v := .int .i64 (t : Nat)) rfl
    have c1 := cell_n hc6 1 (v := .int .i64 0) rfl
    have f1 := free_n hc6 1
    have q2 := cell_n hq6 2 (v := .slice aox3 k3.1.v.length cpx3) rfl
    have c2 := cell_n hc6 2 (v := .slice none 0 0) rfl
    have f2 := free_n hc6 2
    have q3 := cell_n hq6 3 (v := .slice aoy3 k3.1.n.length cpy3) rfl
    have c3 := cell_n hc6 3 (v := .slice none 0 0) rfl
    have f3 := free_n hc6 3
    have q4 := cell_n hq6 4 (v := .slice aoz3 k3.1.l.length cpz3) rfl
    have c4 := cell_n hc6 4 (v := .slice none 0 0) rfl
    have f4 := free_n hc6 4
    have q5 := cell_n hq6 5 (v := str d) rfl
    have c5 := cell_n hc6 5 (v := str []) rfl
    have f5 := free_n hc6 5
    clear he hre hge hq6 hc6 hr6 hgg6
    go_wp2_with fail
    change bodyPost _ _ _ Exit.ret _ (setAll w6 B [.int .i64 (i : Nat), .int .i64 (t : Nat), .slice aox3 k3.1.v.length cpx3, .slice aoy3 k3.1.n.length cpy3, .slice aoz3 k3.1.l.length cpz3, str d])
    generalize setAll w6 B [.int .i64 (i : Nat), .int .i64 (t : Nat), .slice aox3 k3.1.v.length cpx3, .slice aoy3 k3.1.n.length cpy3, .slice aoz3 k3.1.l.length cpz3, str d] = W5 at He Hre Hge HL3 ⊢
    clear c0 f0 c1 f1 c2 f2 c3 f3 c4 f4 c5 f5
    have c0 := cell_n He.out 0 (v := .int .i64 (i : Nat)) rfl
    have c1 := cell_n He.out 1 (v := .int .i64 (t : Nat)) rfl
    have c2 := cell_n He.out 2 (v := .slice aox3 k3.1.v.length cpx3) rfl
    have c3 := cell_n He.out 3 (v := .slice aoy3 k3.1.n.length cpy3) rfl
    have c4 := cell_n He.out 4 (v := .slice aoz3 k3.1.l.length cpz3) rfl
    have c5 := cell_n He.out 5 (v := str d) rfl
    refine bodyPost_ret (by simp [results, Try.results33, go_sem, c0, c1, c2, c3, c4, c5]; rfl) rfl ?_
    rw [EF.out]
    exact ⟨_, _, _, rfl, HL3.out.base (by have := hB.out; omega), Hre.out, Hge.out⟩
  | true =>
    have EF : Hid (F = ((⟨i, t, k3.1, d⟩ : Snap), σ4)) := by show _ = _; rw [← hF.out, if_pos hok]
    clear hok
    obtain ⟨w6, hw6⟩ := hide w5
    rw [hw6.out] at Hq5 Hc5 Hr5 Hg5 HK3 ⊢
    have hq6 := Hq5.out
    have hc6 := Hc5.out
    have hr6 := Hr5.out
    have hgg6 := Hg5.out
    have HM3 := HK3
    have he := setAll_at hc6 [.int .i64 (i : Nat), .int .i64 (t : Nat), .slice aox3 k3.1.v.length cpx3, .slice aoy3 k3.1.n.length cpy3, .slice aoz3 k3.1.l.length cpz3, str d] rfl
    have hre : Rs (setAll w6 B [.int .i64 (i : Nat), .int .i64 (t : Nat), .slice aox3 k3.1.v.length cpx3, .slice aoy3 k3.1.n.length cpy3, .slice aoz3 k3.1.l.length cpz3, str d]) b σ4 := Rs.setAll' hr6 (by have := Hbw.out; omega) _
    have hge := setAll_grown hgg6 Hle.out [.int .i64 (i : Nat), .int .i64 (t : Nat), .slice aox3 k3.1.v.length cpx3, .slice aoy3 k3.1.n.length cpy3, .slice aoz3 k3.1.l.length cpz3, str d]
    have HL3 := Lib.hid (HM3.out.up (w' := setAll w6 B [.int .i64 (i : Nat), .int .i64 (t : Nat), .slice aox3 k3.1.v.length cpx3, .slice aoy3 k3.1.n.length cpy3, .slice aoz3 k3.1.l.length cpz3, str d]) (S' := B + 2) (Up.setAll _ w6 (by omega) _) (Nat.le_refl _))
    have He := Lib.hid he
    have Hre := Lib.hid hre
    have Hge := Lib.hid hge
    have q0 := cell_n hq6 0 (v := .int .i64 (i : Nat)) rfl
    have c0 := cell_n hc6 0 (v := .int .i64 0) rfl
    have f0 := free_n hc6 0
    have q1 := cell_n hq6 1 (v := .int .i64 (t : Nat)) rfl
    have c1 := cell_n hc6 1 (v := .int .i64 0) rfl
    have f1 := free_n hc6 1
    have q2 := cell_n hq6 2 (v := .slice aox3 k3.1.v.length cpx3) rfl
    have c2 := cell_n hc6 2 (v := .slice none 0 0) rfl
    have f2 := free_n hc6 2
    have q3 := cell_n hq6 3 (v := .slice aoy3 k3.1.n.length cpy3) rfl
    have c3 := cell_n hc6 3 (v := .slice none 0 0) rfl
    have f3 := free_n hc6 3
    have q4 := cell_n hq6 4 (v := .slice aoz3 k3.1.l.length cpz3) rfl
    have c4 := cell_n hc6 4 (v := .slice none 0 0) rfl
    have f4 := free_n hc6 4
    have q5 := cell_n hq6 5 (v := str d) rfl
    have c5 := cell_n hc6 5 (v := str []) rfl
    have f5 := free_n hc6 5
    clear he hre hge hq6 hc6 hr6 hgg6
    go_wp2_with fail
    change bodyPost _ _ _ Exit.ret _ (setAll w6 B [.int .i64 (i : Nat), .int .i64 (t : Nat), .slice aox3 k3.1.v.length cpx3, .slice aoy3 k3.1.n.length cpy3, .slice aoz3 k3.1.l.length cpz3, str d])
    generalize setAll w6 B [.int .i64 (i : Nat), .int .i64 (t : Nat), .slice aox3 k3.1.v.length cpx3, .slice aoy3 k3.1.n.length cpy3, .slice aoz3 k3.1.l.length cpz3, str d] = W5 at He Hre Hge HL3 ⊢
    clear c0 f0 c1 f1 c2 f2 c3 f3 c4 f4 c5 f5
    have c0 := cell_n He.out 0 (v := .int .i64 (i : Nat)) rfl
    have c1 := cell_n He.out 1 (v := .int .i64 (t : Nat)) rfl
    have c2 := cell_n He.out 2 (v := .slice aox3 k3.1.v.length cpx3) rfl
    have c3 := cell_n He.out 3 (v := .slice aoy3 k3.1.n.length cpy3) rfl
    have c4 := cell_n He.out 4 (v := .slice aoz3 k3.1.l.length cpz3) rfl
    have c5 := cell_n He.out 5 (v := str d) rfl
    refine bodyPost_ret (by simp [results, Try.results33, go_sem, c0, c1, c2, c3, c4, c5]; rfl) rfl ?_
    rw [EF.out]
    exact ⟨_, _, _, rfl, HL3.out.base (by have := hB.out; omega), Hre.out, Hge.out⟩

theorem rdConf_err {s : List UInt8} {z : Int} (h : rdConf s = .error z) : z ≠ 0 := by
  unfold rdConf at h
  match h1 : rdList 9 s with
  | .error y => rw [h1] at h; cases h; exact rdList_err h1
  | .ok (l1, s1) =>
    rw [h1] at h
    simp only [] at h
    match h2 : rdList 9 s1 with
    | .error y => rw [h2] at h; cases h; exact rdList_err h2
    | .ok (l2, s2) =>
      rw [h2] at h
      simp only [] at h
      match h3 : rdList 9 s2 with
      | .error y => rw [h3] at h; cases h; exact rdList_err h3
      | .ok (l3, s3) =>
        rw [h3] at h
        simp only [] at h
        split at h
        · cases h
        · cases h; decide
theorem confS_error (z : Int) : (confS (.error z)).2 = .error z := confS_err (by rw [listS_error, listS_error, listS_error])
/-- what the document's reader of configurations comes to -/
theorem confS_same (s : List UInt8) : (∀ c t, rdConf s = .ok (c, t) → confS (.ok s) = (c, .ok t)) ∧ (∀ z, rdConf s = .error z → (confS (.ok s)).2 = .error z) := by
  unfold rdConf
  match h1 : rdList 9 s with
  | .error z =>
    have e1 := listS_err h1
    refine ⟨fun c t h => (by cases h), fun y h => ?_⟩
    cases h
    exact confS_err (by rw [e1, listS_error, listS_error])
  | .ok (l1, s1) =>
    have e1 := listS_ok h1
    simp only []
    match h2 : rdList 9 s1 with
    | .error z =>
      have e2 := listS_err h2
      refine ⟨fun c t h => (by cases h), fun y h => ?_⟩
      cases h
      exact confS_err (by rw [e1, e2, listS_error])
    | .ok (l2, s2) =>
      have e2 := listS_ok h2
      simp only []
      match h3 : rdList 9 s2 with
      | .error z =>
        have e3 := listS_err h3
        refine ⟨fun c t h => (by cases h), fun y h => ?_⟩
        cases h
        exact confS_err (by rw [e1, e2, e3])
      | .ok (l3, s3) =>
        have e3 := listS_ok h3
        have e4 : confS (.ok s) = (⟨ints l1, ints l2, ints l3⟩, if validB ⟨ints l1, ints l2, ints l3⟩ = true then .ok s3 else badS 8 (.ok s3)) := by
          unfold confS
          simp only [e1, e2, e3]
        rw [e4]
        simp only []
        by_cases hi : validB ⟨ints l1, ints l2, ints l3⟩ = true
        · rw [if_pos hi, if_pos hi]
          refine ⟨fun c t h => (by cases h; rfl), fun z h => (by cases h)⟩
        · rw [if_neg hi, if_neg hi]
          refine ⟨fun c t h => (by cases h), fun z h => (by cases h; rfl)⟩
theorem snapS_error (z : Int) : (snapS (.error z)).2 = .error z := by
  have h := confS_error z
  unfold snapS
  simp only [stepS]
  rw [h]
  exact ite_self _
theorem snapS_same (s : List UInt8) : (∀ c t, rdSnap s = .ok (c, t) → snapS (.ok s) = (c, .ok t)) ∧ (∀ z, rdSnap s = .error z → (snapS (.ok s)).2 = .error z ∧ z ≠ 0) := by
  unfold rdSnap snapS
  match h1 : rdNum s with
  | .error z =>
    refine ⟨fun c t h => (by cases h), fun y h => ?_⟩
    cases h
    refine ⟨?_, rdNum_err h1⟩
    have hc := confS_error z
    simp only [stepS, stepV, h1, rvalOf, rstOf, hc, badS, ite_self]
  | .ok (i, s1) =>
    simp only [stepS, stepV, h1, rvalOf, rstOf]
    match h2 : rdNum s1 with
    | .error z =>
      refine ⟨fun c t h => (by cases h), fun y h => ?_⟩
      cases h
      refine ⟨?_, rdNum_err h2⟩
      have hc := confS_error z
      simp only [hc, badS, ite_self]
    | .ok (t, s2) =>
      simp only []
      match h3 : rdConf s2 with
      | .error z =>
        refine ⟨fun c t h => (by cases h), fun y h => ?_⟩
        cases h
        refine ⟨?_, rdConf_err h3⟩
        have hc := (confS_same s2).2 z h3
        simp only [hc, badS, ite_self]
      | .ok (c, s3) =>
        have hc := (confS_same s2).1 c s3 h3
        simp only [hc]
        match h4 : rdText 8192 s3 with
        | .error z =>
          refine ⟨fun c t h => (by cases h), fun y h => ?_⟩
          cases h
          refine ⟨?_, rdText_err h4⟩
          simp only [badS, ite_self]
        | .ok (d, s4) =>
          simp only []
          by_cases hi : isSnap i t c d = true
          · rw [if_pos hi, if_pos hi]
            refine ⟨fun c t h => (by cases h; rfl), fun z h => (by cases h)⟩
          · rw [if_neg hi, if_neg hi]
            refine ⟨fun c t h => (by cases h), fun z h => (by cases h; exact ⟨rfl, by decide⟩)⟩
theorem close_same {α : Type} (x : α × St) (r : Res α) (h1 : ∀ c t, r = .ok (c, t) → x = (c, .ok t)) (h2 : ∀ z, r = .error z → x.2 = .error z ∧ z ≠ 0) : closeS x.1 x.2 = full r := by
  match r, h1, h2 with
  | .ok (c, t), h1, _ => rw [h1 c t rfl]; exact closeS_ok _ _
  | .error z, _, h2 => rw [(h2 z rfl).1, closeS_error _ (h2 z rfl).2]; rfl
theorem snap_same (s : List UInt8) : closeS (snapS (.ok s)).1 (snapS (.ok s)).2 = full (rdSnap s) := close_same _ _ (snapS_same s).1 (snapS_same s).2
end Go.Proofs.Ytkcllpbbjlbfaaa
