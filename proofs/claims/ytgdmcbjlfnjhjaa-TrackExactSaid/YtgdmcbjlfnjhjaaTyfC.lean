/-
  TrackExact: for every configuration, what is known of nodes, log and numbers the law, that what a leader knows is what the document says, answers true and leaves its arguments alone. No condition.
-/
import Derived.Test.YtgdmcbjlfnjhjaaOe
import Derived.Test.YtgdmcbjlfnjhjaaLift
import Derived.Test.YtgdmcbjlfnjhjaaTyf
import Derived.Test.YtgdmcbjlfnjhjaaRows
namespace Go.Proofs.Ytgdmcbjlfnjhjaa
open Go.ChangeShapes Go.WideShapes Go.ChangeAt Go.RowKit Wm Mm Lg Opn
set_option linter.unusedVariables false

theorem cells_intT : Try.prog.cellsOf 3 = 1 := by kernel_rfl
theorem cells_boolT : Try.prog.cellsOf 4 = 1 := by kernel_rfl
theorem cells_intsT : Try.prog.cellsOf 22 = 1 := by kernel_rfl
theorem cells_confT : Try.prog.cellsOf 25 = 3 := by kernel_rfl
theorem cells_prgT : Try.prog.cellsOf 27 = 6 := by kernel_rfl
theorem bytes_prgT : Try.prog.bytesOf 27 = 48 := by kernel_rfl
theorem plain_ints {w : World} {v : Value} {l : List Int} (h : Sl 1 (Plain fun i : Int => [.int .i64 i]) (fun _ => True) w v l) (hn : l.length ≤ maxLen) : Ints w v l := by
  obtain ⟨ao, cap, rfl, hcap, hmax, hx⟩ := h
  refine ⟨ao, cap, rfl, fun hne => ?_, hn⟩
  obtain ⟨b, off, rfl, _, _, hj⟩ := hx hne
  refine ⟨b, off, rfl, fun j x hjx => ?_⟩
  obtain ⟨us, _, hus, hcs⟩ := hj j x hjx
  have hus : us = [.int .i64 x] := hus
  subst hus
  have := hcs 0 _ rfl
  rw [Nat.mul_one, Nat.add_zero] at this
  exact this
theorem opens_intsT : Opens Try.prog 22 (fun w cs (l : List Int) => ∃ v, cs = [v] ∧ Ints w v l) (fun _ => True) := by
  have h := opens_sl (fun i : Int => [Value.int .i64 i]) Try.underlying22 cells_intT (by decide) (opens_int (P := Try.prog) Try.underlying3)
  intro H enc w base spare held n cs x hx
  obtain ⟨y, ⟨v, h1, h2⟩, _⟩ := h enc w base spare held n cs x hx
  refine ⟨y, ⟨v, h1, plain_ints h2 ?_⟩, fun _ => trivial⟩
  obtain ⟨_, _, _, _, hm, _⟩ := h2
  exact hm
set_option maxRecDepth 100000 in
theorem opens_prgT : Opens Try.prog 27 (fun _ cs (e : ProgP) => cs = rowG e) (fun p => ((-9223372036854775808 : Int) ≤ p.mtch ∧ p.mtch ≤ 9223372036854775807) ∧ (-9223372036854775808 : Int) ≤ p.nxt ∧ p.nxt ≤ 9223372036854775807) := by
  intro H enc w base spare held n cs x hx
  obtain ⟨hl, hg⟩ := struct_at Try.underlying27 hx
  rw [cells_prgT] at hl
  match cs, hl with
  | [c0, c1, c2, c3, c4, c5], _ =>
    obtain ⟨m0, y0, h0, w0⟩ := hg 0 _ rfl
    obtain ⟨m1, y1, h1, w1⟩ := hg 1 _ rfl
    obtain ⟨m2, y2, h2, w2⟩ := hg 2 _ rfl
    obtain ⟨m3, y3, h3, w3⟩ := hg 3 _ rfl
    obtain ⟨m4, y4, h4, w4⟩ := hg 4 _ rfl
    obtain ⟨m5, y5, h5, w5⟩ := hg 5 _ rfl
    have h0 : DataW.trod enc Try.prog w base spare held m0 3 (([c0, c1, c2, c3, c4, c5].drop 0).take (Try.prog.cellsOf 3)) = some y0 := h0
    have h1 : DataW.trod enc Try.prog w base spare held m1 3 (([c0, c1, c2, c3, c4, c5].drop 1).take (Try.prog.cellsOf 3)) = some y1 := h1
    have h2 : DataW.trod enc Try.prog w base spare held m2 3 (([c0, c1, c2, c3, c4, c5].drop 2).take (Try.prog.cellsOf 3)) = some y2 := h2
    have h3 : DataW.trod enc Try.prog w base spare held m3 3 (([c0, c1, c2, c3, c4, c5].drop 3).take (Try.prog.cellsOf 3)) = some y3 := h3
    have h4 : DataW.trod enc Try.prog w base spare held m4 4 (([c0, c1, c2, c3, c4, c5].drop 4).take (Try.prog.cellsOf 4)) = some y4 := h4
    have h5 : DataW.trod enc Try.prog w base spare held m5 3 (([c0, c1, c2, c3, c4, c5].drop 5).take (Try.prog.cellsOf 3)) = some y5 := h5
    rw [cells_intT] at h0
    rw [cells_intT] at h1
    rw [cells_intT] at h2
    rw [cells_intT] at h3
    rw [cells_boolT] at h4
    rw [cells_intT] at h5
    obtain ⟨a0, b0, f0⟩ := opens_int Try.underlying3 enc w base spare held m0 _ y0 h0
    obtain ⟨a1, b1, f1⟩ := opens_int Try.underlying3 enc w base spare held m1 _ y1 h1
    obtain ⟨a2, b2, f2⟩ := opens_int Try.underlying3 enc w base spare held m2 _ y2 h2
    obtain ⟨a3, b3, f3⟩ := opens_int Try.underlying3 enc w base spare held m3 _ y3 h3
    obtain ⟨a4, b4, f4⟩ := opens_bool Try.underlying4 enc w base spare held m4 _ y4 h4
    obtain ⟨a5, b5, f5⟩ := opens_int Try.underlying3 enc w base spare held m5 _ y5 h5
    obtain rfl : c0 = .int .i64 a0 := by simpa using b0
    obtain rfl : c1 = .int .i64 a1 := by simpa using b1
    obtain rfl : c2 = .int .i64 a2 := by simpa using b2
    obtain rfl : c3 = .int .i64 a3 := by simpa using b3
    obtain rfl : c4 = .bool a4 := by simpa using b4
    obtain rfl : c5 = .int .i64 a5 := by simpa using b5
    exact ⟨⟨a0, a1, a2, a3, a4, a5⟩, rfl, fun hw => ⟨f1 (w1 hw), f2 (w2 hw)⟩⟩
theorem opens_prgsT : Opens Try.prog 28 (fun w cs (l : List ProgP) => ∃ v, cs = [v] ∧ Prgs (fun _ => True) w v l) (fun l => l.length ≤ 2932031007317 ∧ ∀ p ∈ l, ((-9223372036854775808 : Int) ≤ p.mtch ∧ p.mtch ≤ 9223372036854775807) ∧ (-9223372036854775808 : Int) ≤ p.nxt ∧ p.nxt ≤ 9223372036854775807) :=
  (opens_sl rowG Try.underlying28 cells_prgT (by decide) opens_prgT).imp (fun w cs y h => h) (fun y h => by
    have h1 := h.1
    rw [bytes_prgT] at h1
    have hr : reachBytes = 140737488351232 := rfl
    exact ⟨by omega, h.2⟩)
set_option maxRecDepth 100000 in
theorem opens_confT : Opens Try.prog 25 (fun w cs (c : Conf) => ∃ a b d, cs = [a, b, d] ∧ Config3 w a b d c) (fun _ => True) := by
  intro H enc w base spare held n cs x hx
  obtain ⟨hl, hg⟩ := struct_at Try.underlying25 hx
  rw [cells_confT] at hl
  match cs, hl with
  | [c0, c1, c2], _ =>
    obtain ⟨m0, y0, h0, _⟩ := hg 0 _ rfl
    obtain ⟨m1, y1, h1, _⟩ := hg 1 _ rfl
    obtain ⟨m2, y2, h2, _⟩ := hg 2 _ rfl
    have h0 : DataW.trod enc Try.prog w base spare held m0 22 (([c0, c1, c2].drop 0).take (Try.prog.cellsOf 22)) = some y0 := h0
    have h1 : DataW.trod enc Try.prog w base spare held m1 22 (([c0, c1, c2].drop 1).take (Try.prog.cellsOf 22)) = some y1 := h1
    have h2 : DataW.trod enc Try.prog w base spare held m2 22 (([c0, c1, c2].drop 2).take (Try.prog.cellsOf 22)) = some y2 := h2
    rw [cells_intsT] at h0 h1 h2
    obtain ⟨a0, ⟨v0, e0, i0⟩, _⟩ := opens_intsT enc w base spare held m0 _ y0 h0
    obtain rfl : c0 = v0 := by simpa using e0
    obtain ⟨a1, ⟨v1, e1, i1⟩, _⟩ := opens_intsT enc w base spare held m1 _ y1 h1
    obtain rfl : c1 = v1 := by simpa using e1
    obtain ⟨a2, ⟨v2, e2, i2⟩, _⟩ := opens_intsT enc w base spare held m2 _ y2 h2
    obtain rfl : c2 = v2 := by simpa using e2
    exact ⟨⟨a0, a1, a2⟩, ⟨c0, c1, c2, rfl, i0, i1, i2⟩, fun _ => trivial⟩

set_option maxRecDepth 100000 in
theorem trackExact_lifted (os : Os) (started : os.Started) (H : Type) (enc : TypeId × Value → H) :
    ReturnsInHanded {} Try.checked os 5 .any (Rows.trackExactSpec.pre6 enc Try.prog Try.f5 Rows.trackExactRow.domain false) (Rows.trackExactSpec.post enc Try.prog Try.f5 false true false false) := by
  refine returnsInHanded_of_change_sized (C := Try.checked) law_own started (by kernel_rfl) Try.func5
    (ChangeSpec.witness6 (enc := enc) (C := Try.checked) false ⟨#[], #[.agg #[.slice none 0 0, .slice none 0 0, .slice none 0 0], .slice none 0 0, .int .i64 0, .agg #[.int .i64 0, .int .i64 0, .slice none 0 0], .int .i64 0, .int .i64 0, .int .i64 0], []⟩ 8 (by kernel_rfl) (by kernel_rfl) (by kernel_rfl) (by kernel_rfl)) ?_
  intro W base args ds gs before hval0 hW _ hsz0 _
  have hsz : (DataW.weightsEach Try.prog (Try.f5.params.toList ++ Rows.trackExactSpec.plain.varTypes Try.prog) (ds ++ gs)).all (· ≤ reachBytes) = true := hsz0
  have hval : ∀ (j : Nat) t v, Try.f5.params[j]? = some t → args[j]? = some v → Value.okWide Try.prog W .any base t v := hval0
  have hW' : DataW.Whole enc Try.prog Try.f5.params.toList Rows.trackExactSpec.vars false W args.toList ds gs before := hW
  obtain ⟨p, q, hA0, hV, rfl, hfz, hnd⟩ := hW
  have hA : DataW.TrodAll enc Try.prog W 0 (fun _ => true) true Try.f5.params.toList args.toList ds p := hA0
  rw [Try.params5] at hA hval hsz
  obtain ⟨v0, vs0, d0, ds0, p0, q0, hargs, rfl, rfl, h0, r0⟩ := trodAll_cons hA
  obtain ⟨v1, vs1, d1, ds1, p1, q1, rfl, rfl, rfl, h1, r1⟩ := trodAll_cons r0
  obtain ⟨v2, vs2, d2, ds2, p2, q2, rfl, rfl, rfl, h2, r2⟩ := trodAll_cons r1
  obtain ⟨v3, vs3, d3, ds3, p3, q3, rfl, rfl, rfl, h3, r3⟩ := trodAll_cons r2
  obtain ⟨v4, vs4, d4, ds4, p4, q4, rfl, rfl, rfl, h4, r4⟩ := trodAll_cons r3
  obtain ⟨v5, vs5, d5, ds5, p5, q5, rfl, rfl, rfl, h5, r5⟩ := trodAll_cons r4
  obtain ⟨v6, vs6, d6, ds6, p6, q6, rfl, rfl, rfl, h6, r6⟩ := trodAll_cons r5
  obtain ⟨rfl, rfl, rfl⟩ := trodAll_nil r6
  obtain rfl : args = #[v0, v1, v2, v3, v4, v5, v6] := by cases args; simp_all
  obtain ⟨rfl, rfl⟩ := trodVars_none hV
  clear hA0 hval0 hsz0
  obtain ⟨c, ⟨a, b, d, hcs0, hc⟩, _⟩ := opens_confT.arg h0
  obtain ⟨cs0, rfl, _⟩ := okWide_struct Try.underlying25 (hval 0 25 v0 rfl rfl)
  have e0 : cs0 = #[a, b, d] := by cases cs0; simpa [Value.cells] using hcs0
  subst e0
  obtain ⟨known, ⟨knownv, hcs1, hl1⟩, hf1⟩ := opens_prgsT.arg h1
  obtain ⟨a1, n1, k1, rfl⟩ := okWide_slice Try.underlying28 (hval 1 28 v1 rfl rfl)
  obtain rfl : Value.slice a1 n1 k1 = knownv := by simpa [Value.cells] using hcs1
  have hg1 := hf1 (weights_at hsz (j := 1) (t := 28) rfl rfl)
  obtain ⟨self, rfl⟩ := okWide_int Try.underlying3 (hval 2 3 v2 rfl rfl)
  have g2 : (-9223372036854775808 : Int) ≤ self ∧ self ≤ 9223372036854775807 := by
    obtain ⟨y, hy, hf⟩ := (opens_int (P := Try.prog) Try.underlying3).arg h2
    obtain rfl : self = y := by simpa [Value.cells] using hy
    exact hf (weights_at hsz (j := 2) (t := 3) rfl rfl)
  obtain ⟨⟨lb, bt, l⟩, ⟨ev, hcs3, hl⟩, hfl⟩ := opens_log.arg h3
  obtain ⟨cs3, rfl, _⟩ := okWide_struct Try.underlying33 (hval 3 33 v3 rfl rfl)
  have e3 : cs3 = #[.int .i64 lb, .int .i64 bt, ev] := by cases cs3; simpa [Value.cells] using hcs3
  subst e3
  have hf3 : l.length ≤ 3518437208780 := hfl (weights_at hsz (j := 3) (t := 33) rfl rfl)
  obtain ⟨index, rfl⟩ := okWide_int Try.underlying3 (hval 4 3 v4 rfl rfl)
  have g4 : (-9223372036854775808 : Int) ≤ index ∧ index ≤ 9223372036854775807 := by
    obtain ⟨y, hy, hf⟩ := (opens_int (P := Try.prog) Try.underlying3).arg h4
    obtain rfl : index = y := by simpa [Value.cells] using hy
    exact hf (weights_at hsz (j := 4) (t := 3) rfl rfl)
  obtain ⟨hint, rfl⟩ := okWide_int Try.underlying3 (hval 5 3 v5 rfl rfl)
  obtain ⟨term, rfl⟩ := okWide_int Try.underlying3 (hval 6 3 v6 rfl rfl)
  refine (law_track a b d ev (.slice a1 n1 k1) c known l self lb bt index hint term W hc hl1 hl hg1.1 (by omega) g2 g4 hg1.2).mono fun e W' ⟨he, hb⟩ => ?_
  exact ⟨_, he, law_post (by kernel_rfl) (by kernel_rfl) rfl rfl rfl rfl hW' hb⟩

theorem trackExact_holds : Rows.TrackExactSaid :=
  OpenClaim.holds_of_wide 5 Try.f5 rfl rfl rfl rfl rfl rfl rfl ⟨rfl, rfl, rfl, rfl, rfl⟩ rfl rfl rfl rfl rfl (by kernel_rfl) Try.func5 (by kernel_rfl)
    (of_decide_eq_true (by kernel_rfl)) (by unfold Func.isWrapper; first | (rw [if_pos (by decide +kernel)]; kernel_rfl) | (rw [if_neg (by decide +kernel)]; exact ⟨rfl, rfl⟩))
    (fun os started H enc _ => trackExact_lifted os started H enc)

end Go.Proofs.Ytgdmcbjlfnjhjaa
