/-
  ConfigMeets: for every four numbers and every list of operations the law, that any two quorums meet, answers true and leaves its arguments alone. No condition.
-/
import Derived.Test.YtgdmcbjlfnjhjaaOg
import Derived.Test.YtgdmcbjlfnjhjaaLift
import Derived.Test.YtgdmcbjlfnjhjaaCme
import Derived.Test.YtgdmcbjlfnjhjaaRows
namespace Go.Proofs.Ytgdmcbjlfnjhjaa
open Go.ChangeShapes Go.WideShapes Go.ChangeAt Go.RowKit Wm Mm Opn
set_option linter.unusedVariables false

theorem cells_intO : Try.prog.cellsOf 3 = 1 := by kernel_rfl
theorem cells_op : Try.prog.cellsOf 44 = 2 := by kernel_rfl
theorem bytes_op : Try.prog.bytesOf 44 = 16 := by kernel_rfl
set_option maxRecDepth 100000 in
theorem opens_op : Opens Try.prog 44 (fun _ cs (e : OpP) => cs = rowO e) (fun _ => True) := by
  intro H enc w base spare held n cs x hx
  obtain ⟨hl, hg⟩ := struct_at Try.underlying44 hx
  rw [cells_op] at hl
  match cs, hl with
  | [c0, c1], _ =>
    obtain ⟨m0, y0, h0, _⟩ := hg 0 _ rfl
    obtain ⟨m1, y1, h1, _⟩ := hg 1 _ rfl
    have h0 : DataW.trod enc Try.prog w base spare held m0 3 (([c0, c1].drop 0).take (Try.prog.cellsOf 3)) = some y0 := h0
    have h1 : DataW.trod enc Try.prog w base spare held m1 3 (([c0, c1].drop 1).take (Try.prog.cellsOf 3)) = some y1 := h1
    rw [cells_intO] at h0 h1
    obtain ⟨a, ha, _⟩ := opens_int Try.underlying3 enc w base spare held m0 _ y0 h0
    obtain ⟨b, hb, _⟩ := opens_int Try.underlying3 enc w base spare held m1 _ y1 h1
    obtain rfl : c0 = .int .i64 a := by simpa using ha
    obtain rfl : c1 = .int .i64 b := by simpa using hb
    exact ⟨⟨a, b⟩, rfl, fun _ => trivial⟩
theorem opens_ops : Opens Try.prog 42 (fun w cs (l : List OpP) => ∃ v, cs = [v] ∧ Sl 2 (Plain rowO) (fun _ => True) w v l) (fun l => l.length * 16 ≤ reachBytes ∧ ∀ y ∈ l, True) := by
  have := opens_sl rowO Try.underlying42 cells_op (by decide) opens_op
  rw [bytes_op] at this
  exact this

set_option maxRecDepth 100000 in
theorem configMeets_lifted (os : Os) (started : os.Started) (H : Type) (enc : TypeId × Value → H) :
    ReturnsInHanded {} Try.checked os 4 .any (Rows.configMeetsSpec.pre6 enc Try.prog Try.f4 Rows.configMeetsRow.domain false) (Rows.configMeetsSpec.post enc Try.prog Try.f4 false true false false) := by
  refine returnsInHanded_of_change_sized (C := Try.checked) law_own started (by kernel_rfl) Try.func4
    (ChangeSpec.witness6 (enc := enc) (C := Try.checked) false ⟨#[], #[.int .i64 0, .int .i64 0, .slice none 0 0, .int .i64 0, .int .i64 0], []⟩ 8 (by kernel_rfl) (by kernel_rfl) (by kernel_rfl) (by kernel_rfl)) ?_
  intro W base args ds gs before hval0 hW _ hsz0 _
  have hsz : (DataW.weightsEach Try.prog (Try.f4.params.toList ++ Rows.configMeetsSpec.plain.varTypes Try.prog) (ds ++ gs)).all (· ≤ reachBytes) = true := hsz0
  have hval : ∀ (j : Nat) t v, Try.f4.params[j]? = some t → args[j]? = some v → Value.okWide Try.prog W .any base t v := hval0
  have hW' : DataW.Whole enc Try.prog Try.f4.params.toList Rows.configMeetsSpec.vars false W args.toList ds gs before := hW
  obtain ⟨p, q, hA0, hV, rfl, hfz, hnd⟩ := hW
  have hA : DataW.TrodAll enc Try.prog W 0 (fun _ => true) true Try.f4.params.toList args.toList ds p := hA0
  rw [Try.params4] at hA hval hsz
  obtain ⟨v0, vs0, d0, ds0, p0, q0, hargs, rfl, rfl, h0, r0⟩ := trodAll_cons hA
  obtain ⟨v1, vs1, d1, ds1, p1, q1, rfl, rfl, rfl, h1, r1⟩ := trodAll_cons r0
  obtain ⟨v2, vs2, d2, ds2, p2, q2, rfl, rfl, rfl, h2, r2⟩ := trodAll_cons r1
  obtain ⟨v3, vs3, d3, ds3, p3, q3, rfl, rfl, rfl, h3, r3⟩ := trodAll_cons r2
  obtain ⟨v4, vs4, d4, ds4, p4, q4, rfl, rfl, rfl, h4, r4⟩ := trodAll_cons r3
  obtain ⟨rfl, rfl, rfl⟩ := trodAll_nil r4
  obtain rfl : args = #[v0, v1, v2, v3, v4] := by cases args; simp_all
  obtain ⟨rfl, rfl⟩ := trodVars_none hV
  clear hA0 hval0 hsz0
  obtain ⟨raw, ⟨rawv, hcs2, hl2⟩, hf2⟩ := opens_ops.arg h2
  obtain ⟨a2, n2, k2, rfl⟩ := okWide_slice Try.underlying42 (hval 2 42 v2 rfl rfl)
  obtain rfl : Value.slice a2 n2 k2 = rawv := by simpa [Value.cells] using hcs2
  have hg2 := hf2 (weights_at hsz (j := 2) (t := 42) rfl rfl)
  obtain ⟨n_0, rfl⟩ := okWide_int Try.underlying3 (hval 0 3 v0 rfl rfl)
  obtain ⟨n_1, rfl⟩ := okWide_int Try.underlying3 (hval 1 3 v1 rfl rfl)
  obtain ⟨n_3, rfl⟩ := okWide_int Try.underlying3 (hval 3 3 v3 rfl rfl)
  obtain ⟨n_4, rfl⟩ := okWide_int Try.underlying3 (hval 4 3 v4 rfl rfl)
  refine (law_meets n_0 n_1 n_3 n_4 (.slice a2 n2 k2) raw W hl2 (by have := hg2.1; unfold reachBytes at this; omega)).mono fun e W' ⟨he, hb⟩ => ?_
  exact ⟨_, he, law_post (by kernel_rfl) (by kernel_rfl) rfl rfl rfl rfl hW' hb⟩

theorem configMeets_holds : Rows.ConfigMeetsSaid :=
  OpenClaim.holds_of_wide 4 Try.f4 rfl rfl rfl rfl rfl rfl rfl ⟨rfl, rfl, rfl, rfl, rfl⟩ rfl rfl rfl rfl rfl (by kernel_rfl) Try.func4 (by kernel_rfl)
    (of_decide_eq_true (by kernel_rfl)) (by unfold Func.isWrapper; first | (rw [if_pos (by decide +kernel)]; kernel_rfl) | (rw [if_neg (by decide +kernel)]; exact ⟨rfl, rfl⟩))
    (fun os started H enc _ => configMeets_lifted os started H enc)

end Go.Proofs.Ytgdmcbjlfnjhjaa
