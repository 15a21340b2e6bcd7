/-
  RelayExact: for every number of a host and every script the law that the program's relay and the document's answer the same answers true and leaves its arguments alone. No condition.
-/
import Derived.Test.YtckclacdmpcpbaaYp
import Derived.Test.YtckclacdmpcpbaaOg
namespace Go.Proofs.Ytckclacdmpcpbaa
open Go.ChangeShapes Go.WideShapes Go.ChangeAt Go.RowKit Wm Mm Rl Opn
set_option linter.unusedVariables false

theorem cells_intE : Try.prog.cellsOf 3 = 1 := by kernel_rfl
theorem cells_strE : Try.prog.cellsOf 9 = 1 := by kernel_rfl
theorem cells_boolE : Try.prog.cellsOf 4 = 1 := by kernel_rfl
theorem cells_pktE : Try.prog.cellsOf 34 = 5 := by kernel_rfl
set_option maxRecDepth 100000 in
theorem opens_pktE : Opens Try.prog 34 (fun _ cs (e : PktP) => cs = rowP e) (fun _ => True) := by
  intro H enc w base spare held n cs x hx
  obtain ⟨hl, hg⟩ := struct_at Try.underlying34 hx
  rw [cells_pktE] at hl
  match cs, hl with
  | [c0, c1, c2, c3, c4], _ =>
    obtain ⟨m0, y0, h0, _⟩ := hg 0 _ rfl
    obtain ⟨m1, y1, h1, _⟩ := hg 1 _ rfl
    obtain ⟨m2, y2, h2, _⟩ := hg 2 _ rfl
    obtain ⟨m3, y3, h3, _⟩ := hg 3 _ rfl
    obtain ⟨m4, y4, h4, _⟩ := hg 4 _ rfl
    have h0 : DataW.trod enc Try.prog w base spare held m0 3 (([c0, c1, c2, c3, c4].drop 0).take (Try.prog.cellsOf 3)) = some y0 := h0
    have h1 : DataW.trod enc Try.prog w base spare held m1 3 (([c0, c1, c2, c3, c4].drop 1).take (Try.prog.cellsOf 3)) = some y1 := h1
    have h2 : DataW.trod enc Try.prog w base spare held m2 3 (([c0, c1, c2, c3, c4].drop 2).take (Try.prog.cellsOf 3)) = some y2 := h2
    have h3 : DataW.trod enc Try.prog w base spare held m3 4 (([c0, c1, c2, c3, c4].drop 3).take (Try.prog.cellsOf 4)) = some y3 := h3
    have h4 : DataW.trod enc Try.prog w base spare held m4 9 (([c0, c1, c2, c3, c4].drop 4).take (Try.prog.cellsOf 9)) = some y4 := h4
    rw [cells_intE] at h0
    rw [cells_intE] at h1
    rw [cells_intE] at h2
    rw [cells_boolE] at h3
    rw [cells_strE] at h4
    obtain ⟨a0, b0, _⟩ := opens_int Try.underlying3 enc w base spare held m0 _ y0 h0
    obtain ⟨a1, b1, _⟩ := opens_int Try.underlying3 enc w base spare held m1 _ y1 h1
    obtain ⟨a2, b2, _⟩ := opens_int Try.underlying3 enc w base spare held m2 _ y2 h2
    obtain ⟨a3, b3, _⟩ := opens_bool Try.underlying4 enc w base spare held m3 _ y3 h3
    obtain ⟨a4, b4, _⟩ := opens_str Try.underlying9 enc w base spare held m4 _ y4 h4
    obtain rfl : c0 = .int .i64 a0 := by simpa using b0
    obtain rfl : c1 = .int .i64 a1 := by simpa using b1
    obtain rfl : c2 = .int .i64 a2 := by simpa using b2
    obtain rfl : c3 = .bool a3 := by simpa using b3
    obtain rfl : c4 = str a4 := by simpa using b4
    exact ⟨⟨a0, a1, a2, a3, a4⟩, rfl, fun _ => trivial⟩
theorem cells_stepE : Try.prog.cellsOf 36 = 8 := by kernel_rfl
set_option maxRecDepth 100000 in
theorem opens_stepE : Opens Try.prog 36 (fun _ cs (e : StepP) => cs = rowSt e) (fun _ => True) := by
  intro H enc w base spare held n cs x hx
  obtain ⟨hl, hg⟩ := struct_at Try.underlying36 hx
  rw [cells_stepE] at hl
  match cs, hl with
  | [c0, c1, c2, c3, c4, c5, c6, c7], _ =>
    obtain ⟨m0, y0, h0, _⟩ := hg 0 _ rfl
    obtain ⟨m1, y1, h1, _⟩ := hg 1 _ rfl
    obtain ⟨m2, y2, h2, _⟩ := hg 2 _ rfl
    obtain ⟨m3, y3, h3, _⟩ := hg 3 _ rfl
    have h0 : DataW.trod enc Try.prog w base spare held m0 3 (([c0, c1, c2, c3, c4, c5, c6, c7].drop 0).take (Try.prog.cellsOf 3)) = some y0 := h0
    have h1 : DataW.trod enc Try.prog w base spare held m1 3 (([c0, c1, c2, c3, c4, c5, c6, c7].drop 1).take (Try.prog.cellsOf 3)) = some y1 := h1
    have h2 : DataW.trod enc Try.prog w base spare held m2 9 (([c0, c1, c2, c3, c4, c5, c6, c7].drop 2).take (Try.prog.cellsOf 9)) = some y2 := h2
    have h3 : DataW.trod enc Try.prog w base spare held m3 34 (([c0, c1, c2, c3, c4, c5, c6, c7].drop 3).take (Try.prog.cellsOf 34)) = some y3 := h3
    rw [cells_intE] at h0
    rw [cells_intE] at h1
    rw [cells_strE] at h2
    rw [cells_pktE] at h3
    obtain ⟨a0, b0, _⟩ := opens_int Try.underlying3 enc w base spare held m0 _ y0 h0
    obtain ⟨a1, b1, _⟩ := opens_int Try.underlying3 enc w base spare held m1 _ y1 h1
    obtain ⟨a2, b2, _⟩ := opens_str Try.underlying9 enc w base spare held m2 _ y2 h2
    obtain ⟨a3, b3, _⟩ := opens_pktE enc w base spare held m3 _ y3 h3
    obtain rfl : c0 = .int .i64 a0 := by simpa using b0
    obtain rfl : c1 = .int .i64 a1 := by simpa using b1
    obtain rfl : c2 = str a2 := by simpa using b2
    have b3 : [c3, c4, c5, c6, c7] = rowP a3 := b3
    simp only [List.cons.injEq, and_true] at b3
    obtain ⟨rfl, rfl, rfl, rfl, rfl⟩ := b3
    exact ⟨⟨a0, a1, a2, a3⟩, rfl, fun _ => trivial⟩
theorem bytes_stepE : Try.prog.bytesOf 36 = 80 := by kernel_rfl
theorem opens_stepsE : Opens Try.prog 22 (fun w cs (l : List StepP) => ∃ v, cs = [v] ∧ StepsX (fun _ => True) w v l) (fun l => l.length ≤ 2199023255552) :=
  (opens_sl rowSt Try.underlying22 cells_stepE (by decide) opens_stepE).imp (fun w cs y h => h) (fun y h => by
    have h1 := h.1
    rw [bytes_stepE] at h1
    have hr : reachBytes = 140737488351232 := rfl
    omega)

set_option maxRecDepth 100000 in
theorem relayExact_lifted (os : Os) (started : os.Started) (H : Type) (enc : TypeId × Value → H) :
    ReturnsInHanded {} Try.checked os 3 .any (Rows.relayExactSpec.pre6 enc Try.prog Try.f3 Rows.relayExactRow.domain false) (Rows.relayExactSpec.post enc Try.prog Try.f3 false true false false) := by
  refine returnsInHanded_of_change_sized (C := Try.checked) law_own started (by kernel_rfl) Try.func3
    (ChangeSpec.witness6 (enc := enc) (C := Try.checked) false ⟨#[], #[.int .i64 0, .slice none 0 0], []⟩ 8 (by kernel_rfl) (by kernel_rfl) (by kernel_rfl) (by kernel_rfl)) ?_
  intro W base args ds gs before hval0 hW _ hsz0 _
  have hsz : (DataW.weightsEach Try.prog (Try.f3.params.toList ++ Rows.relayExactSpec.plain.varTypes Try.prog) (ds ++ gs)).all (· ≤ reachBytes) = true := hsz0
  have hval : ∀ (j : Nat) t v, Try.f3.params[j]? = some t → args[j]? = some v → Value.okWide Try.prog W .any base t v := hval0
  have hW' : DataW.Whole enc Try.prog Try.f3.params.toList Rows.relayExactSpec.vars false W args.toList ds gs before := hW
  obtain ⟨p, q, hA0, hV, rfl, hfz, hnd⟩ := hW
  have hA : DataW.TrodAll enc Try.prog W 0 (fun _ => true) true Try.f3.params.toList args.toList ds p := hA0
  rw [Try.params3] at hA hval hsz
  obtain ⟨v0, vs0, d0, ds0, p0, q0, hargs, rfl, rfl, h0, r0⟩ := trodAll_cons hA
  obtain ⟨v1, vs1, d1, ds1, p1, q1, rfl, rfl, rfl, h1, r1⟩ := trodAll_cons r0
  obtain ⟨rfl, rfl, rfl⟩ := trodAll_nil r1
  obtain rfl : args = #[v0, v1] := by cases args; simp_all
  obtain ⟨rfl, rfl⟩ := trodVars_none hV
  clear hA0 hval0 hsz0
  obtain ⟨n0, rfl⟩ := okWide_int Try.underlying3 (hval 0 3 v0 rfl rfl)
  obtain ⟨l, ⟨lv, hcs1, hl⟩, hfl⟩ := opens_stepsE.arg h1
  obtain ⟨a1, n1, k1, rfl⟩ := okWide_slice Try.underlying22 (hval 1 22 v1 rfl rfl)
  obtain rfl : Value.slice a1 n1 k1 = lv := by simpa [Value.cells] using hcs1
  have hf1 : l.length ≤ 2199023255552 := hfl (weights_at hsz (j := 1) (t := 22) rfl rfl)
  refine (law_relayExact n0 (.slice a1 n1 k1) l _ W hl hf1).mono fun e W' ⟨he, hb⟩ => ?_
  exact ⟨_, he, law_post (by kernel_rfl) (by kernel_rfl) rfl rfl rfl rfl hW' hb⟩

theorem relayExact_holds : Rows.RelayExactSaid :=
  OpenClaim.holds_of_wide 3 Try.f3 rfl rfl rfl rfl rfl rfl rfl ⟨rfl, rfl, rfl, rfl, rfl⟩ rfl rfl rfl rfl rfl (by kernel_rfl) Try.func3 (by kernel_rfl)
    (of_decide_eq_true (by kernel_rfl)) (by unfold Func.isWrapper; first | (rw [if_pos (by decide +kernel)]; kernel_rfl) | (rw [if_neg (by decide +kernel)]; exact ⟨rfl, rfl⟩))
    (fun os started H enc _ => relayExact_lifted os started H enc)

end Go.Proofs.Ytckclacdmpcpbaa
