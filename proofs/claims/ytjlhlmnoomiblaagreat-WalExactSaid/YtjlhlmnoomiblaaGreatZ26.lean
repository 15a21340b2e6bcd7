/-
  Reading snapshots, the document's way; both ways agree.
-/
import Derived.Test.YtjlhlmnoomiblaaGreatZ25
import Derived.Test.YtjlhlmnoomiblaaGreatZ22
namespace Go.Proofs.YtjlhlmnoomiblaaGreat
open Go.RowKit Wm Mm
set_option linter.unusedVariables false

def snapS (σ : St) : Snap × St :=
  let i := stepV 0 rdNum σ
  let σ1 := stepS rdNum σ
  let t := stepV 0 rdNum σ1
  let σ2 := stepS rdNum σ1
  let k := confS σ2
  let d := stepV [] (rdText 8192) k.2
  let σ4 := stepS (rdText 8192) k.2
  (⟨i, t, k.1, d⟩, if isSnap i t k.1 d = true then σ4 else badS 6 σ4)

set_option maxHeartbeats 4000000 in
theorem snapshot_rs {b : Nat} {σ : St} {w : World} (h : Rs w b σ) :
    Calls Tryz.prog 97 #[.pointer (some ⟨b, 0, none⟩)] w fun e w' => ∃ x y z, e = .returned (vSnap (snapS σ).1.index (snapS σ).1.term x y z (snapS σ).1.data) ∧ Config3F w.heap.size w' x y z (snapS σ).1.conf ∧ Rs w' b (snapS σ).2 ∧ w.grownBy w' (some b) := by
  obtain ⟨F, hF⟩ := hide (snapS σ)
  rw [hF.out]
  unfold snapS at hF
  simp only [] at hF
  have hbw : b < w.heap.size := Rs.lt h
  obtain ⟨V0, hV⟩ := hide ((w.alloc (.cells #[.int .i64 0, .int .i64 0, .slice none 0 0, .slice none 0 0, .slice none 0 0, str []] 29)).alloc (.cells #[.int .i64 0, .int .i64 0, .slice none 0 0, .slice none 0 0, .slice none 0 0, str []] 29))
  have h0 : Stage w V0 b w.heap.size 29 [.int .i64 0, .int .i64 0, .slice none 0 0, .slice none 0 0, .slice none 0 0, str []] [.int .i64 0, .int .i64 0, .slice none 0 0, .slice none 0 0, .slice none 0 0, str []] σ := by
    rw [← hV.out]
    refine ⟨(hp_past _ _ (by simp only [World.size_alloc]; omega)).trans (hp_at _ _ rfl), hp_at _ _ (by simp only [World.size_alloc]), ?_, ?_⟩
    · exact (h.kept (World.grownBy_alloc w _ none) (by simp)).kept (World.grownBy_alloc _ _ none) (by simp)
    · exact grown_trans (World.grownBy_alloc w _ _) (World.grownBy_alloc _ _ _)
  have Hbw := Lib.hid hbw
  have Hle : Hid (w.heap.size ≤ w.heap.size) := Nat.le_refl _
  have H0 := Lib.hid h0
  obtain ⟨i, hv1⟩ := hide (stepV 0 rdNum σ)
  obtain ⟨σ1, hs1⟩ := hide (stepS rdNum σ)
  rw [hv1.out, hs1.out] at hF
  obtain ⟨t, hv2⟩ := hide (stepV 0 rdNum σ1)
  obtain ⟨σ2, hs2⟩ := hide (stepS rdNum σ1)
  rw [hv2.out, hs2.out] at hF
  obtain ⟨k3, hk3⟩ := hide (confS σ2)
  rw [hk3.out] at hF
  obtain ⟨d, hv4⟩ := hide (stepV [] (rdText 8192) k3.2)
  obtain ⟨σ4, hs4⟩ := hide (stepS (rdText 8192) k3.2)
  rw [hv4.out, hs4.out] at hF
  clear h h0 hbw
  obtain ⟨B, hB⟩ := hide w.heap.size
  rw [hB.out] at H0 Hbw
  have Hle : Hid (w.heap.size ≤ B) := by rw [hB.out]; exact Nat.le_refl _
  go_enter Tryz.func97, Tryz.ntmps97
  go_wp2_with fail
  rw [hV.out, hB.out]
  refine (number_rs H0.out.rs).mono ?_
  rw [hv1.out, hs1.out]
  rintro e v1 ⟨rfl, hr, hg⟩
  have G1 := Lib.hid (H0.out.step Hbw.out hr hg)
  have H1 := Lib.hid ((G1.out.put Hbw.out Hle.out 0 (.int .i64 (i : Nat))))
  clear hr hg
  have q0 := cell_n G1.out.req 0 (v := .int .i64 0) rfl
  have f0 := free_n G1.out.req 0
  have q1 := cell_n G1.out.req 1 (v := .int .i64 0) rfl
  have f1 := free_n G1.out.req 1
  have q2 := cell_n G1.out.req 2 (v := .slice none 0 0) rfl
  have f2 := free_n G1.out.req 2
  have q3 := cell_n G1.out.req 3 (v := .slice none 0 0) rfl
  have f3 := free_n G1.out.req 3
  have q4 := cell_n G1.out.req 4 (v := .slice none 0 0) rfl
  have f4 := free_n G1.out.req 4
  have q5 := cell_n G1.out.req 5 (v := str []) rfl
  have f5 := free_n G1.out.req 5
  go_wp2_with fail
  clear q0 f0 q1 f1 q2 f2 q3 f3 q4 f4 q5 f5
  refine (number_rs H1.out.rs).mono ?_
  rw [hv2.out, hs2.out]
  rintro e v2 ⟨rfl, hr, hg⟩
  have G2 := Lib.hid (H1.out.step Hbw.out hr hg)
  have H2 := Lib.hid ((G2.out.put Hbw.out Hle.out 1 (.int .i64 (t : Nat))))
  clear hr hg
  have q0 := cell_n G2.out.req 0 (v := .int .i64 (i : Nat)) rfl
  have f0 := free_n G2.out.req 0
  have q1 := cell_n G2.out.req 1 (v := .int .i64 0) rfl
  have f1 := free_n G2.out.req 1
  have q2 := cell_n G2.out.req 2 (v := .slice none 0 0) rfl
  have f2 := free_n G2.out.req 2
  have q3 := cell_n G2.out.req 3 (v := .slice none 0 0) rfl
  have f3 := free_n G2.out.req 3
  have q4 := cell_n G2.out.req 4 (v := .slice none 0 0) rfl
  have f4 := free_n G2.out.req 4
  have q5 := cell_n G2.out.req 5 (v := str []) rfl
  have f5 := free_n G2.out.req 5
  go_wp2_with fail
  clear q0 f0 q1 f1 q2 f2 q3 f3 q4 f4 q5 f5
  refine (config_rs H2.out.rs).mono ?_
  rw [hk3.out]
  rintro e v3 ⟨x3, y3, z3, rfl, hcf, hr, hg⟩
  obtain ⟨aox3, cpx3, rfl⟩ := hcf.v.len
  obtain ⟨aoy3, cpy3, rfl⟩ := hcf.n.len
  obtain ⟨aoz3, cpz3, rfl⟩ := hcf.l.len
  have HI3 : Hid (Config3F (B + 2) v3 (.slice aox3 k3.1.v.length cpx3) (.slice aoy3 k3.1.n.length cpy3) (.slice aoz3 k3.1.l.length cpz3) k3.1) := hcf.base (by have := lt_of_block H2.out.req; omega)
  clear hcf
  have G3 := Lib.hid (H2.out.step Hbw.out hr hg)
  have H3 := Lib.hid ((((G3.out.put Hbw.out Hle.out 2 (.slice aox3 k3.1.v.length cpx3)).put Hbw.out Hle.out 3 (.slice aoy3 k3.1.n.length cpy3)).put Hbw.out Hle.out 4 (.slice aoz3 k3.1.l.length cpz3)))
  clear hr hg
  have q0 := cell_n G3.out.req 0 (v := .int .i64 (i : Nat)) rfl
  have f0 := free_n G3.out.req 0
  have q1 := cell_n G3.out.req 1 (v := .int .i64 (t : Nat)) rfl
  have f1 := free_n G3.out.req 1
  have q2 := cell_n G3.out.req 2 (v := .slice none 0 0) rfl
  have f2 := free_n G3.out.req 2
  have q3 := cell_n G3.out.req 3 (v := .slice none 0 0) rfl
  have f3 := free_n G3.out.req 3
  have q4 := cell_n G3.out.req 4 (v := .slice none 0 0) rfl
  have f4 := free_n G3.out.req 4
  have q5 := cell_n G3.out.req 5 (v := str []) rfl
  have f5 := free_n G3.out.req 5
  go_wp2_with fail
  clear q0 f0 q1 f1 q2 f2 q3 f3 q4 f4 q5 f5
  refine (text_rs 8192 H3.out.rs).mono ?_
  rw [hv4.out, hs4.out]
  rintro e v4 ⟨rfl, hr, hg⟩
  have HI3' := Lib.hid (((((HI3.out.up (S' := B + 2) (Up.setCell (B + 2) _ (a := ⟨B + 1, 2, none⟩) (by simp) (.slice aox3 k3.1.v.length cpx3)) (Nat.le_refl _)).up (S' := B + 2) (Up.setCell (B + 2) _ (a := ⟨B + 1, 3, none⟩) (by simp) (.slice aoy3 k3.1.n.length cpy3)) (Nat.le_refl _)).up (S' := B + 2) (Up.setCell (B + 2) _ (a := ⟨B + 1, 4, none⟩) (by simp) (.slice aoz3 k3.1.l.length cpz3)) (Nat.le_refl _))).up (Up.ofGrown hg (by have := Hbw.out; omega)) (Nat.le_refl _))
  clear HI3
  have HI3 := HI3'
  clear HI3'
  have G4 := Lib.hid (H3.out.step Hbw.out hr hg)
  have H4 := Lib.hid ((G4.out.put Hbw.out Hle.out 5 (str d)))
  clear hr hg
  have q0 := cell_n G4.out.req 0 (v := .int .i64 (i : Nat)) rfl
  have f0 := free_n G4.out.req 0
  have q1 := cell_n G4.out.req 1 (v := .int .i64 (t : Nat)) rfl
  have f1 := free_n G4.out.req 1
  have q2 := cell_n G4.out.req 2 (v := .slice aox3 k3.1.v.length cpx3) rfl
  have f2 := free_n G4.out.req 2
  have q3 := cell_n G4.out.req 3 (v := .slice aoy3 k3.1.n.length cpy3) rfl
  have f3 := free_n G4.out.req 3
  have q4 := cell_n G4.out.req 4 (v := .slice aoz3 k3.1.l.length cpz3) rfl
  have f4 := free_n G4.out.req 4
  have q5 := cell_n G4.out.req 5 (v := str []) rfl
  have f5 := free_n G4.out.req 5
  go_upto_region 6 with fail
  clear q0 f0 q1 f1 q2 f2 q3 f3 q4 f4 q5 f5
  obtain ⟨W4, hW4⟩ := hide (v4.setCell ⟨B + 1, 5, none⟩ (str d))
  change Code.wp _ _ _ _ (v4.setCell ⟨B + 1, 5, none⟩ (str d))
  rw [hW4.out]
  have H9 : Hid (Stage w W4 b B 29 [.int .i64 0, .int .i64 0, .slice none 0 0, .slice none 0 0, .slice none 0 0, str []] [.int .i64 (i : Nat), .int .i64 (t : Nat), .slice aox3 k3.1.v.length cpx3, .slice aoy3 k3.1.n.length cpy3, .slice aoz3 k3.1.l.length cpz3, str d] σ4) := by rw [← hW4.out]; exact H4.out
  have HJ3 := Lib.hid (HI3.out.up (w' := W4) (S' := B + 2) (by rw [← hW4.out]; exact Up.setCell (B + 2) _ (a := ⟨B + 1, 5, none⟩) (by simp) (str d)) (Nat.le_refl _))
  have q0 := cell_n H9.out.req 0 (v := .int .i64 (i : Nat)) rfl
  have q1 := cell_n H9.out.req 1 (v := .int .i64 (t : Nat)) rfl
  have q2 := cell_n H9.out.req 2 (v := .slice aox3 k3.1.v.length cpx3) rfl
  have q3 := cell_n H9.out.req 3 (v := .slice aoy3 k3.1.n.length cpy3) rfl
  have q4 := cell_n H9.out.req 4 (v := .slice aoz3 k3.1.l.length cpz3) rfl
  have q5 := cell_n H9.out.req 5 (v := str d) rfl
  have HV := Lib.hid (ref_isSnapshot i t _ _ _ k3.1 d W4 HJ3.out.conf)
  go_wp2_with fail
  refine HV.out.mono ?_
  rintro e w5 ⟨rfl, hb5⟩
  clear q0 q1 q2 q3 q4 q5
  have hq5 := (hb5.block _ (lt_of_block H9.out.req)).trans H9.out.req
  have hc5 := (hb5.block _ (lt_of_block H9.out.res)).trans H9.out.res
  have hr5 : Rs w5 b σ4 := H9.out.rs.kept (below_grown hb5 none) (by simp)
  have hg5 : w.grownBy w5 (some b) := grown_trans H9.out.grown (below_grown hb5 _)
  have HK3 := Lib.hid (HJ3.out.up (S' := B + 2) (Up.ofBelow hb5) (Nat.le_refl _))
  have Hq5 := Lib.hid hq5
  have Hc5 := Lib.hid hc5
  have Hr5 := Lib.hid hr5
  have Hg5 := Lib.hid hg5
  clear hq5 hc5 hr5 hg5 hb5
  cases hok : isSnap i t k3.1 d with
  | false =>
    have EF : Hid (F = ((⟨i, t, k3.1, d⟩ : Snap), (badS 6 σ4))) := by show _ = _; rw [← hF.out, if_neg (by simp [hok])]
    clear hok
    go_wp2_with fail
    refine (bad_rs 6 (by decide) Hr5.out).mono ?_
    rintro e w6 ⟨rfl, hr6, hg6⟩
    have hq6 := (hg6.block _ (lt_of_block Hq5.out) (by have := Hbw.out; simp; omega)).trans Hq5.out
    have hc6 := (hg6.block _ (lt_of_block Hc5.out) (by have := Hbw.out; simp; omega)).trans Hc5.out
    have hgg6 := grown_trans Hg5.out hg6
    have HM3 := Lib.hid (HK3.out.up (S' := B + 2) (Up.ofGrown hg6 (by have := Hbw.out; omega)) (Nat.le_refl _))
    clear hg6
    have he := setAll_at hc6 [.int .i64 (i : Nat), .int .i64 (t : Nat), .slice aox3 k3.1.v.length cpx3, .slice aoy3 k3.1.n.length cpy3, .slice aoz3 k3.1.l.length cpz3, str d] rfl
    have hre : Rs (setAll w6 B [.int .i64 (i : Nat), .int .i64 (t : Nat), .slice aox3 k3.1.v.length cpx3, .slice aoy3 k3.1.n.length cpy3, .slice aoz3 k3.1.l.length cpz3, str d]) b (badS 6 σ4) := Rs.setAll' hr6 (by have := Hbw.out; omega) _
    have hge := setAll_grown hgg6 Hle.out [.int .i64 (i : Nat), .int .i64 (t : Nat), .slice aox3 k3.1.v.length cpx3, .slice aoy3 k3.1.n.length cpy3, .slice aoz3 k3.1.l.length cpz3, str d]
    have HL3 := Lib.hid (HM3.out.up (w' := setAll w6 B [.int .i64 (i : Nat), .int .i64 (t : Nat), .slice aox3 k3.1.v.length cpx3, .slice aoy3 k3.1.n.length cpy3, .slice aoz3 k3.1.l.length cpz3, str d]) (S' := B + 2) (Up.setAll _ w6 (by omega) _) (Nat.le_refl _))
    have He := Lib.hid he
    have Hre := Lib.hid hre
    have Hge := Lib.hid hge
    have q0 := cell_n hq6 0 (v := .int .i64 (i : Nat)) rfl
    have c0 := cell_n hc6 0 (v := .int .i64 0) rfl
    have f0 := free_n hc6 0
    have q1 := cell_n hq6 1 (v := .int .i64 (t : Nat)) rfl
    have c1 := cell_n hc6 1 (v := .int .i64 0) rfl
    have f1 := free_n hc6 1
    have q2 := cell_n hq6 2 (v := .slice aox3 k3.1.v.length cpx3) rfl
    have c2 := cell_n hc6 2 (v := .slice none 0 0) rfl
    have f2 := free_n hc6 2
    have q3 := cell_n hq6 3 (v := .slice aoy3 k3.1.n.length cpy3) rfl
    have c3 := cell_n hc6 3 (v := .slice none 0 0) rfl
    have f3 := free_n hc6 3
    have q4 := cell_n hq6 4 (v := .slice aoz3 k3.1.l.length cpz3) rfl
    have c4 := cell_n hc6 4 (v := .slice none 0 0) rfl
    have f4 := free_n hc6 4
    have q5 := cell_n hq6 5 (v := str d) rfl
    have c5 := cell_n hc6 5 (v := str []) rfl
    have f5 := free_n hc6 5
    clear he hre hge hq6 hc6 hr6 hgg6
    go_wp2_with fail
    change bodyPost _ _ _ Exit.ret _ (setAll w6 B [.int .i64 (i : Nat), .int .i64 (t : Nat), .slice aox3 k3.1.v.length cpx3, .slice aoy3 k3.1.n.length cpy3, .slice aoz3 k3.1.l.length cpz3, str d])
    generalize setAll w6 B [.int .i64 (i : Nat), .int .i64 (t : Nat), .slice aox3 k3.1.v.length cpx3, .slice aoy3 k3.1.n.length cpy3, .slice aoz3 k3.1.l.length cpz3, str d] = W5 at He Hre Hge HL3 ⊢
    clear c0 f0 c1 f1 c2 f2 c3 f3 c4 f4 c5 f5
    have c0 := cell_n He.out 0 (v := .int .i64 (i : Nat)) rfl
    have c1 := cell_n He.out 1 (v := .int .i64 (t : Nat)) rfl
    have c2 := cell_n He.out 2 (v := .slice aox3 k3.1.v.length cpx3) rfl
    have c3 := cell_n He.out 3 (v := .slice aoy3 k3.1.n.length cpy3) rfl
    have c4 := cell_n He.out 4 (v := .slice aoz3 k3.1.l.length cpz3) rfl
    have c5 := cell_n He.out 5 (v := str d) rfl
    refine bodyPost_ret (by simp [results, Tryz.results97, go_sem, c0, c1, c2, c3, c4, c5]; rfl) rfl ?_
    rw [EF.out]
    exact ⟨_, _, _, rfl, HL3.out.base (by have := hB.out; omega), Hre.out, Hge.out⟩
  | true =>
    have EF : Hid (F = ((⟨i, t, k3.1, d⟩ : Snap), σ4)) := by show _ = _; rw [← hF.out, if_pos hok]
    clear hok
    obtain ⟨w6, hw6⟩ := hide w5
    rw [hw6.out] at Hq5 Hc5 Hr5 Hg5 HK3 ⊢
    have hq6 := Hq5.out
    have hc6 := Hc5.out
    have hr6 := Hr5.out
    have hgg6 := Hg5.out
    have HM3 := HK3
    have he := setAll_at hc6 [.int .i64 (i : Nat), .int .i64 (t : Nat), .slice aox3 k3.1.v.length cpx3, .slice aoy3 k3.1.n.length cpy3, .slice aoz3 k3.1.l.length cpz3, str d] rfl
    have hre : Rs (setAll w6 B [.int .i64 (i : Nat), .int .i64 (t : Nat), .slice aox3 k3.1.v.length cpx3, .slice aoy3 k3.1.n.length cpy3, .slice aoz3 k3.1.l.length cpz3, str d]) b σ4 := Rs.setAll' hr6 (by have := Hbw.out; omega) _
    have hge := setAll_grown hgg6 Hle.out [.int .i64 (i : Nat), .int .i64 (t : Nat), .slice aox3 k3.1.v.length cpx3, .slice aoy3 k3.1.n.length cpy3, .slice aoz3 k3.1.l.length cpz3, str d]
    have HL3 := Lib.hid (HM3.out.up (w' := setAll w6 B [.int .i64 (i : Nat), .int .i64 (t : Nat), .slice aox3 k3.1.v.length cpx3, .slice aoy3 k3.1.n.length cpy3, .slice aoz3 k3.1.l.length cpz3, str d]) (S' := B + 2) (Up.setAll _ w6 (by omega) _) (Nat.le_refl _))
    have He := Lib.hid he
    have Hre := Lib.hid hre
    have Hge := Lib.hid hge
    have q0 := cell_n hq6 0 (v := .int .i64 (i : Nat)) rfl
    have c0 := cell_n hc6 0 (v := .int .i64 0) rfl
    have f0 := free_n hc6 0
    have q1 := cell_n hq6 1 (v := .int .i64 (t : Nat)) rfl
    have c1 := cell_n hc6 1 (v := .int .i64 0) rfl
    have f1 := free_n hc6 1
    have q2 := cell_n hq6 2 (v := .slice aox3 k3.1.v.length cpx3) rfl
    have c2 := cell_n hc6 2 (v := .slice none 0 0) rfl
    have f2 := free_n hc6 2
    have q3 := cell_n hq6 3 (v := .slice aoy3 k3.1.n.length cpy3) rfl
    have c3 := cell_n hc6 3 (v := .slice none 0 0) rfl
    have f3 := free_n hc6 3
    have q4 := cell_n hq6 4 (v := .slice aoz3 k3.1.l.length cpz3) rfl
    have c4 := cell_n hc6 4 (v := .slice none 0 0) rfl
    have f4 := free_n hc6 4
    have q5 := cell_n hq6 5 (v := str d) rfl
    have c5 := cell_n hc6 5 (v := str []) rfl
    have f5 := free_n hc6 5
    clear he hre hge hq6 hc6 hr6 hgg6
    go_wp2_with fail
    change bodyPost _ _ _ Exit.ret _ (setAll w6 B [.int .i64 (i : Nat), .int .i64 (t : Nat), .slice aox3 k3.1.v.length cpx3, .slice aoy3 k3.1.n.length cpy3, .slice aoz3 k3.1.l.length cpz3, str d])
    generalize setAll w6 B [.int .i64 (i : Nat), .int .i64 (t : Nat), .slice aox3 k3.1.v.length cpx3, .slice aoy3 k3.1.n.length cpy3, .slice aoz3 k3.1.l.length cpz3, str d] = W5 at He Hre Hge HL3 ⊢
    clear c0 f0 c1 f1 c2 f2 c3 f3 c4 f4 c5 f5
    have c0 := cell_n He.out 0 (v := .int .i64 (i : Nat)) rfl
    have c1 := cell_n He.out 1 (v := .int .i64 (t : Nat)) rfl
    have c2 := cell_n He.out 2 (v := .slice aox3 k3.1.v.length cpx3) rfl
    have c3 := cell_n He.out 3 (v := .slice aoy3 k3.1.n.length cpy3) rfl
    have c4 := cell_n He.out 4 (v := .slice aoz3 k3.1.l.length cpz3) rfl
    have c5 := cell_n He.out 5 (v := str d) rfl
    refine bodyPost_ret (by simp [results, Tryz.results97, go_sem, c0, c1, c2, c3, c4, c5]; rfl) rfl ?_
    rw [EF.out]
    exact ⟨_, _, _, rfl, HL3.out.base (by have := hB.out; omega), Hre.out, Hge.out⟩

set_option maxHeartbeats 4000000 in
theorem ref_getSnapshot (s : List UInt8) (w : World) (hs : s.length ≤ 9223372036854775807) :
    Calls Tryz.prog 69 #[str s] w (GotSnap w (closeS (snapS (.ok s)).1 (snapS (.ok s)).2)) := by
  obtain ⟨V0, hV⟩ := hide ((w.alloc (.cells #[.int .i64 0, .int .i64 0, .slice none 0 0, .slice none 0 0, .slice none 0 0, str []] 29)).alloc (.cells #[str s, .int .i64 0] 112))
  have hc0 : V0.heap[w.heap.size]? = some (.cells #[.int .i64 0, .int .i64 0, .slice none 0 0, .slice none 0 0, .slice none 0 0, str []] 29 (0, 0)) := by rw [← hV.out]; exact (hp_past _ _ (by simp only [World.size_alloc]; omega)).trans (hp_at _ _ rfl)
  have hr0 : Rs V0 (w.heap.size + 1) (.ok s) := by rw [← hV.out]; exact ⟨hp_at _ _ (by simp only [World.size_alloc]), hs⟩
  have hb0 : Below w.heap.size w V0 := by rw [← hV.out]; exact ((Below.refl _ _).alloc (Nat.le_refl _) _).alloc (by simp) _
  have HM := snapshot_rs hr0
  obtain ⟨F, hF⟩ := hide (snapS (.ok s))
  rw [hF.out] at HM ⊢
  obtain ⟨q, σ⟩ := F
  simp only [] at HM ⊢
  have HM := Lib.hid HM
  have Hc0 := Lib.hid hc0
  have Hr0 := Lib.hid hr0
  have Hb0 := Lib.hid hb0
  obtain ⟨post, HP⟩ := hide (GotSnap w (closeS q σ))
  rw [HP.out]
  obtain ⟨B, hB⟩ := hide w.heap.size
  have Hs0 : Hid (B + 1 < V0.heap.size) := by rw [← hB.out]; exact Rs.lt hr0
  rw [hB.out] at HM Hc0 Hr0 Hb0
  clear hc0 hr0 hb0
  go_enter Tryz.func69, Tryz.ntmps69
  go_wp2_with fail
  rw [hV.out, hB.out]
  refine HM.out.mono ?_
  rintro e v1 ⟨x, y, z, rfl, hcf, hr1, hg1⟩
  obtain ⟨ao1, cp1, rfl⟩ := hcf.v.len
  obtain ⟨ao2, cp2, rfl⟩ := hcf.n.len
  obtain ⟨ao3, cp3, rfl⟩ := hcf.l.len
  have hc1 := (hg1.block _ (lt_of_block Hc0.out) (by simp)).trans Hc0.out
  have hb1 : Below B w v1 := Hb0.out.trans ⟨hg1.os, hg1.tape, hg1.output, hg1.size, fun k hk => hg1.block k (by have := Hs0.out; omega) (by simp; omega)⟩
  obtain ⟨V2, hV2⟩ := hide (v1.alloc (.cells #[.int .i64 q.index, .int .i64 q.term, .slice ao1 q.conf.v.length cp1, .slice ao2 q.conf.n.length cp2, .slice ao3 q.conf.l.length cp3, str q.data] 29))
  have hq2 : V2.heap[v1.heap.size]? = some (.cells #[.int .i64 q.index, .int .i64 q.term, .slice ao1 q.conf.v.length cp1, .slice ao2 q.conf.n.length cp2, .slice ao3 q.conf.l.length cp3, str q.data] 29 (0, 0)) := by rw [← hV2.out]; exact hp_at _ _ rfl
  have hc2 : V2.heap[B]? = some (.cells #[.int .i64 0, .int .i64 0, .slice none 0 0, .slice none 0 0, .slice none 0 0, str []] 29 (0, 0)) := by rw [← hV2.out]; exact (hp_past _ _ (by have := lt_of_block hc1; omega)).trans hc1
  have hr2 : Rs V2 (B + 1) σ := by rw [← hV2.out]; exact hr1.kept (World.grownBy_alloc v1 _ none) (by simp)
  have hb2 : Below B w V2 := by rw [← hV2.out]; exact hb1.alloc (by have := lt_of_block hc1; omega) _
  have Hs1 : Hid (B + 1 < v1.heap.size) := Nat.lt_of_lt_of_le Hs0.out hg1.size
  have hcf2 := hcf.up (w' := V2) (by rw [← hV2.out]; exact Up.alloc V0.heap.size v1 _) (Nat.le_refl _)
  have Hcf2 := Lib.hid hcf2
  have Hq2 := Lib.hid hq2
  have Hc2 := Lib.hid hc2
  have Hr2 := Lib.hid hr2
  have Hb2 := Lib.hid hb2
  clear hc1 hb1 hq2 hc2 hr2 hb2 hr1 hg1 hcf hcf2
  go_upto_region 3 with fail
  rw [hV2.out]
  obtain ⟨Q, hQ⟩ := hide v1.heap.size
  rw [hQ.out] at Hq2 Hs1 ⊢
  go_wp2_with fail
  obtain ⟨z, hz9⟩ := hide (endS σ)
  refine (end_rs Hr2.out).mono ?_
  rw [hz9.out]
  rintro e v9 ⟨rfl, hg⟩
  have hq9 := (hg.block _ (lt_of_block Hq2.out) (by have := Hs1.out; simp; omega)).trans Hq2.out
  have hc9 := (hg.block _ (lt_of_block Hc2.out) (by simp)).trans Hc2.out
  have hb9 : Below B w v9 := Hb2.out.trans ⟨hg.os, hg.tape, hg.output, hg.size, fun k hk => hg.block k (by have := Hs0.out; have := lt_of_block Hc2.out; omega) (by simp; omega)⟩
  have Hcf9 := Lib.hid (Hcf2.out.up (Up.ofGrown hg Hs0.out) (Nat.le_refl _))
  have Hq9 := Lib.hid hq9
  have Hc9 := Lib.hid hc9
  have Hb9 := Lib.hid hb9
  clear hg hq9 hc9 hb9
  have q0 := cell_n Hq9.out 0 (v := .int .i64 q.index) rfl
  have q1 := cell_n Hq9.out 1 (v := .int .i64 q.term) rfl
  have q2 := cell_n Hq9.out 2 (v := .slice ao1 q.conf.v.length cp1) rfl
  have q3 := cell_n Hq9.out 3 (v := .slice ao2 q.conf.n.length cp2) rfl
  have q4 := cell_n Hq9.out 4 (v := .slice ao3 q.conf.l.length cp3) rfl
  have q5 := cell_n Hq9.out 5 (v := str q.data) rfl
  have c0 := cell_n Hc9.out 0 (v := .int .i64 0) rfl
  have f0 := free_n Hc9.out 0
  have c1 := cell_n Hc9.out 1 (v := .int .i64 0) rfl
  have f1 := free_n Hc9.out 1
  have c2 := cell_n Hc9.out 2 (v := .slice none 0 0) rfl
  have f2 := free_n Hc9.out 2
  have c3 := cell_n Hc9.out 3 (v := .slice none 0 0) rfl
  have f3 := free_n Hc9.out 3
  have c4 := cell_n Hc9.out 4 (v := .slice none 0 0) rfl
  have f4 := free_n Hc9.out 4
  have c5 := cell_n Hc9.out 5 (v := str []) rfl
  have f5 := free_n Hc9.out 5
  by_cases h9 : z = 0
  · have hcl : closeS q σ = .ok q := by simp only [closeS]; rw [hz9.out, h9]; rfl
    subst h9
    have HE := Lib.hid (setAll_at Hc9.out [.int .i64 q.index, .int .i64 q.term, .slice ao1 q.conf.v.length cp1, .slice ao2 q.conf.n.length cp2, .slice ao3 q.conf.l.length cp3, str q.data] rfl)
    have HB := Lib.hid (setAll_below Hb9.out (Nat.le_refl _) [.int .i64 q.index, .int .i64 q.term, .slice ao1 q.conf.v.length cp1, .slice ao2 q.conf.n.length cp2, .slice ao3 q.conf.l.length cp3, str q.data])
    have HCL := Lib.hid hcl
    have Hcf := Lib.hid (Hcf9.out.up (w' := setAll v9 B [.int .i64 q.index, .int .i64 q.term, .slice ao1 q.conf.v.length cp1, .slice ao2 q.conf.n.length cp2, .slice ao3 q.conf.l.length cp3, str q.data]) (S' := B + 1) (Up.setAll _ v9 (by omega) _) (by have := Hs0.out; omega))
    clear hcl
    go_wp2_with fail
    change bodyPost _ _ _ Exit.ret _ (setAll v9 B [.int .i64 q.index, .int .i64 q.term, .slice ao1 q.conf.v.length cp1, .slice ao2 q.conf.n.length cp2, .slice ao3 q.conf.l.length cp3, str q.data])
    generalize setAll v9 B [.int .i64 q.index, .int .i64 q.term, .slice ao1 q.conf.v.length cp1, .slice ao2 q.conf.n.length cp2, .slice ao3 q.conf.l.length cp3, str q.data] = W5 at HE HB Hcf ⊢
    clear c0 f0 c1 f1 c2 f2 c3 f3 c4 f4 c5 f5
    have c0 := cell_n HE.out 0 (v := .int .i64 q.index) rfl
    have c1 := cell_n HE.out 1 (v := .int .i64 q.term) rfl
    have c2 := cell_n HE.out 2 (v := .slice ao1 q.conf.v.length cp1) rfl
    have c3 := cell_n HE.out 3 (v := .slice ao2 q.conf.n.length cp2) rfl
    have c4 := cell_n HE.out 4 (v := .slice ao3 q.conf.l.length cp3) rfl
    have c5 := cell_n HE.out 5 (v := str q.data) rfl
    refine bodyPost_ret (by simp [results, Tryz.results69, go_sem, c0, c1, c2, c3, c4, c5]; rfl) rfl ?_
    rw [← HP.out, HCL.out]
    exact ⟨_, _, _, rfl, Hcf.out.base (by rw [hB.out]; have := Hs0.out; omega), by rw [hB.out]; exact HB.out⟩
  · have hcl : closeS q σ = .error z := by simp only [closeS]; rw [hz9.out]; split <;> first | rfl | (exfalso; exact h9 rfl)
    have u0 : (z == 0) = false := beq_eq_false_iff_ne.2 h9
    have u1 : (z != 0) = true := bne_iff_ne.2 h9
    clear h9
    have HE := Lib.hid (setAll_at Hc9.out [.int .i64 0, .int .i64 0, .slice none 0 0, .slice none 0 0, .slice none 0 0, str []] rfl)
    have HB := Lib.hid (setAll_below Hb9.out (Nat.le_refl _) [.int .i64 0, .int .i64 0, .slice none 0 0, .slice none 0 0, .slice none 0 0, str []])
    have HCL := Lib.hid hcl
    clear hcl
    go_wp2_with fail
    change bodyPost _ _ _ Exit.ret _ (setAll v9 B [.int .i64 0, .int .i64 0, .slice none 0 0, .slice none 0 0, .slice none 0 0, str []])
    generalize setAll v9 B [.int .i64 0, .int .i64 0, .slice none 0 0, .slice none 0 0, .slice none 0 0, str []] = W5 at HE HB ⊢
    clear c0 f0 c1 f1 c2 f2 c3 f3 c4 f4 c5 f5
    have c0 := cell_n HE.out 0 (v := .int .i64 0) rfl
    have c1 := cell_n HE.out 1 (v := .int .i64 0) rfl
    have c2 := cell_n HE.out 2 (v := .slice none 0 0) rfl
    have c3 := cell_n HE.out 3 (v := .slice none 0 0) rfl
    have c4 := cell_n HE.out 4 (v := .slice none 0 0) rfl
    have c5 := cell_n HE.out 5 (v := str []) rfl
    refine bodyPost_ret (by simp [results, Tryz.results69, go_sem, c0, c1, c2, c3, c4, c5]; rfl) rfl ?_
    rw [← HP.out, HCL.out]
    exact ⟨rfl, by rw [hB.out]; exact HB.out⟩

theorem rdConf_err {s : List UInt8} {z : Int} (h : rdConf s = .error z) : z ≠ 0 := by
  unfold rdConf at h
  match h1 : rdList 9 s with
  | .error y => rw [h1] at h; cases h; exact rdList_err h1
  | .ok (l1, s1) =>
    rw [h1] at h
    simp only [] at h
    match h2 : rdList 9 s1 with
    | .error y => rw [h2] at h; cases h; exact rdList_err h2
    | .ok (l2, s2) =>
      rw [h2] at h
      simp only [] at h
      match h3 : rdList 9 s2 with
      | .error y => rw [h3] at h; cases h; exact rdList_err h3
      | .ok (l3, s3) =>
        rw [h3] at h
        simp only [] at h
        split at h
        · cases h
        · cases h; decide
theorem confS_error (z : Int) : (confS (.error z)).2 = .error z := confS_err (by rw [listS_error, listS_error, listS_error])
/-- what the document's reader of configurations comes to -/
theorem confS_same (s : List UInt8) : (∀ c t, rdConf s = .ok (c, t) → confS (.ok s) = (c, .ok t)) ∧ (∀ z, rdConf s = .error z → (confS (.ok s)).2 = .error z) := by
  unfold rdConf
  match h1 : rdList 9 s with
  | .error z =>
    have e1 := listS_err h1
    refine ⟨fun c t h => (by cases h), fun y h => ?_⟩
    cases h
    exact confS_err (by rw [e1, listS_error, listS_error])
  | .ok (l1, s1) =>
    have e1 := listS_ok h1
    simp only []
    match h2 : rdList 9 s1 with
    | .error z =>
      have e2 := listS_err h2
      refine ⟨fun c t h => (by cases h), fun y h => ?_⟩
      cases h
      exact confS_err (by rw [e1, e2, listS_error])
    | .ok (l2, s2) =>
      have e2 := listS_ok h2
      simp only []
      match h3 : rdList 9 s2 with
      | .error z =>
        have e3 := listS_err h3
        refine ⟨fun c t h => (by cases h), fun y h => ?_⟩
        cases h
        exact confS_err (by rw [e1, e2, e3])
      | .ok (l3, s3) =>
        have e3 := listS_ok h3
        have e4 : confS (.ok s) = (⟨ints l1, ints l2, ints l3⟩, if validB ⟨ints l1, ints l2, ints l3⟩ = true then .ok s3 else badS 8 (.ok s3)) := by
          unfold confS
          simp only [e1, e2, e3]
        rw [e4]
        simp only []
        by_cases hi : validB ⟨ints l1, ints l2, ints l3⟩ = true
        · rw [if_pos hi, if_pos hi]
          refine ⟨fun c t h => (by cases h; rfl), fun z h => (by cases h)⟩
        · rw [if_neg hi, if_neg hi]
          refine ⟨fun c t h => (by cases h), fun z h => (by cases h; rfl)⟩
theorem snapS_error (z : Int) : (snapS (.error z)).2 = .error z := by
  have h := confS_error z
  unfold snapS
  simp only [stepS]
  rw [h]
  exact ite_self _
theorem snapS_same (s : List UInt8) : (∀ c t, rdSnap s = .ok (c, t) → snapS (.ok s) = (c, .ok t)) ∧ (∀ z, rdSnap s = .error z → (snapS (.ok s)).2 = .error z ∧ z ≠ 0) := by
  unfold rdSnap snapS
  match h1 : rdNum s with
  | .error z =>
    refine ⟨fun c t h => (by cases h), fun y h => ?_⟩
    cases h
    refine ⟨?_, rdNum_err h1⟩
    have hc := confS_error z
    simp only [stepS, stepV, h1, rvalOf, rstOf, hc, badS, ite_self]
  | .ok (i, s1) =>
    simp only [stepS, stepV, h1, rvalOf, rstOf]
    match h2 : rdNum s1 with
    | .error z =>
      refine ⟨fun c t h => (by cases h), fun y h => ?_⟩
      cases h
      refine ⟨?_, rdNum_err h2⟩
      have hc := confS_error z
      simp only [hc, badS, ite_self]
    | .ok (t, s2) =>
      simp only []
      match h3 : rdConf s2 with
      | .error z =>
        refine ⟨fun c t h => (by cases h), fun y h => ?_⟩
        cases h
        refine ⟨?_, rdConf_err h3⟩
        have hc := (confS_same s2).2 z h3
        simp only [hc, badS, ite_self]
      | .ok (c, s3) =>
        have hc := (confS_same s2).1 c s3 h3
        simp only [hc]
        match h4 : rdText 8192 s3 with
        | .error z =>
          refine ⟨fun c t h => (by cases h), fun y h => ?_⟩
          cases h
          refine ⟨?_, rdText_err h4⟩
          simp only [badS, ite_self]
        | .ok (d, s4) =>
          simp only []
          by_cases hi : isSnap i t c d = true
          · rw [if_pos hi, if_pos hi]
            refine ⟨fun c t h => (by cases h; rfl), fun z h => (by cases h)⟩
          · rw [if_neg hi, if_neg hi]
            refine ⟨fun c t h => (by cases h), fun z h => (by cases h; exact ⟨rfl, by decide⟩)⟩
theorem close_same {α : Type} (x : α × St) (r : Res α) (h1 : ∀ c t, r = .ok (c, t) → x = (c, .ok t)) (h2 : ∀ z, r = .error z → x.2 = .error z ∧ z ≠ 0) : closeS x.1 x.2 = full r := by
  match r, h1, h2 with
  | .ok (c, t), h1, _ => rw [h1 c t rfl]; exact closeS_ok _ _
  | .error z, _, h2 => rw [(h2 z rfl).1, closeS_error _ (h2 z rfl).2]; rfl
theorem snap_same (s : List UInt8) : closeS (snapS (.ok s)).1 (snapS (.ok s)).2 = full (rdSnap s) := close_same _ _ (snapS_same s).1 (snapS_same s).2
end Go.Proofs.YtjlhlmnoomiblaaGreat
