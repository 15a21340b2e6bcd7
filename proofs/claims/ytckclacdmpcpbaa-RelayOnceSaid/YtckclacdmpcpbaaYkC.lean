/-
  RelayOnce: for every script of turns the law that what is sent comes once, in order, answers true and leaves its argument alone. No condition.
-/
import Derived.Test.YtckclacdmpcpbaaYk
import Derived.Test.YtckclacdmpcpbaaOd
namespace Go.Proofs.Ytckclacdmpcpbaa
open Go.ChangeShapes Go.WideShapes Go.ChangeAt Go.RowKit Wm Mm Rl Opn
set_option linter.unusedVariables false

theorem cells_intT : Try.prog.cellsOf 3 = 1 := by kernel_rfl
theorem cells_strT : Try.prog.cellsOf 9 = 1 := by kernel_rfl
theorem cells_turn : Try.prog.cellsOf 51 = 4 := by kernel_rfl
set_option maxRecDepth 100000 in
theorem opens_turn : OpensB Try.prog 51 (fun _ cs (e : TurnP) => cs = rowTu e) (fun n e => i64r e.kd ∧ i64r e.hst ∧ i64r e.num) := by
  refine ⟨fun _ _ _ h1 h => h, fun H enc w base spare held n cs x hx => ?_⟩
  obtain ⟨hl, hg⟩ := struct_atB Try.underlying51 hx
  rw [cells_turn] at hl
  match cs, hl with
  | [c0, c1, c2, c3], _ =>
    obtain ⟨m0, y0, h0, _⟩ := hg 0 _ rfl
    obtain ⟨m1, y1, h1, _⟩ := hg 1 _ rfl
    obtain ⟨m2, y2, h2, _⟩ := hg 2 _ rfl
    obtain ⟨m3, y3, h3, _⟩ := hg 3 _ rfl
    have h0 : DataW.trod enc Try.prog w base spare held m0 3 (([c0, c1, c2, c3].drop 0).take (Try.prog.cellsOf 3)) = some y0 := h0
    have h1 : DataW.trod enc Try.prog w base spare held m1 3 (([c0, c1, c2, c3].drop 1).take (Try.prog.cellsOf 3)) = some y1 := h1
    have h2 : DataW.trod enc Try.prog w base spare held m2 3 (([c0, c1, c2, c3].drop 2).take (Try.prog.cellsOf 3)) = some y2 := h2
    have h3 : DataW.trod enc Try.prog w base spare held m3 9 (([c0, c1, c2, c3].drop 3).take (Try.prog.cellsOf 9)) = some y3 := h3
    rw [cells_intT] at h0 h1 h2
    rw [cells_strT] at h3
    obtain ⟨a, ha, ra⟩ := (opensB_int Try.underlying3).2 enc w base spare held m0 _ y0 h0
    obtain ⟨b, hb, rb⟩ := (opensB_int Try.underlying3).2 enc w base spare held m1 _ y1 h1
    obtain ⟨c, hc, rc⟩ := (opensB_int Try.underlying3).2 enc w base spare held m2 _ y2 h2
    obtain ⟨d, hd, _⟩ := (opensB_str Try.underlying9).2 enc w base spare held m3 _ y3 h3
    obtain rfl : c0 = .int .i64 a := by simpa using ha
    obtain rfl : c1 = .int .i64 b := by simpa using hb
    obtain rfl : c2 = .int .i64 c := by simpa using hc
    obtain rfl : c3 = str d := by simpa using hd
    exact ⟨⟨a, b, c, d⟩, rfl, ra, rb, rc⟩
theorem opens_turns : OpensB Try.prog 45 (fun w cs (l : List TurnP) => ∃ v, cs = [v] ∧ Turns (fun _ => True) w v l) (fun n l => l.length ≤ n ∧ ∀ y ∈ l, i64r y.kd ∧ i64r y.hst ∧ i64r y.num) :=
  opensB_sl rowTu Try.underlying45 cells_turn (by decide) opens_turn

set_option maxRecDepth 100000 in
theorem relayOnce_lifted (os : Os) (started : os.Started) (H : Type) (enc : TypeId × Value → H) :
    ReturnsInHanded {} Try.checked os 4 .any (Rows.relayOnceSpec.pre6 enc Try.prog Try.f4 Rows.relayOnceRow.domain false) (Rows.relayOnceSpec.post enc Try.prog Try.f4 false true false false) := by
  refine returnsInHanded_of_change_sized (C := Try.checked) law_own started (by kernel_rfl) Try.func4
    (ChangeSpec.witness6 (enc := enc) (C := Try.checked) false ⟨#[], #[.slice none 0 0], []⟩ 8 (by kernel_rfl) (by kernel_rfl) (by kernel_rfl) (by kernel_rfl)) ?_
  intro W base args ds gs before hval0 hW _ hsz0 _
  have hval : ∀ (j : Nat) t v, Try.f4.params[j]? = some t → args[j]? = some v → Value.okWide Try.prog W .any base t v := hval0
  have hW' : DataW.Whole enc Try.prog Try.f4.params.toList Rows.relayOnceSpec.vars false W args.toList ds gs before := hW
  obtain ⟨p, q, hA0, hV, rfl, hfz, hnd⟩ := hW
  have hA : DataW.TrodAll enc Try.prog W 0 (fun _ => true) true Try.f4.params.toList args.toList ds p := hA0
  rw [Try.params4] at hA hval
  obtain ⟨v0, vs0, d0, ds0, p0, q0, hargs, rfl, rfl, h0, r0⟩ := trodAll_cons hA
  obtain ⟨rfl, rfl, rfl⟩ := trodAll_nil r0
  obtain rfl : args = #[v0] := by cases args; simp_all
  obtain ⟨rfl, rfl⟩ := trodVars_none hV
  clear hA0 hval0 hsz0
  obtain ⟨l, ⟨lv, hcs0, hl⟩, hB⟩ := opens_turns.arg h0
  obtain ⟨a0, n0, k0, rfl⟩ := okWide_slice Try.underlying45 (hval 0 45 v0 rfl rfl)
  obtain rfl : Value.slice a0 n0 k0 = lv := by simpa [Value.cells] using hcs0
  refine (law_relayOnce (.slice a0 n0 k0) l _ W hl hB.2).mono fun e W' ⟨he, hb⟩ => ?_
  exact ⟨_, he, law_post (by kernel_rfl) (by kernel_rfl) rfl rfl rfl rfl hW' hb⟩

theorem relayOnce_holds : Rows.RelayOnceSaid :=
  OpenClaim.holds_of_wide 4 Try.f4 rfl rfl rfl rfl rfl rfl rfl ⟨rfl, rfl, rfl, rfl, rfl⟩ rfl rfl rfl rfl rfl (by kernel_rfl) Try.func4 (by kernel_rfl)
    (of_decide_eq_true (by kernel_rfl)) (by unfold Func.isWrapper; first | (rw [if_pos (by decide +kernel)]; kernel_rfl) | (rw [if_neg (by decide +kernel)]; exact ⟨rfl, rfl⟩))
    (fun os started H enc _ => relayOnce_lifted os started H enc)

end Go.Proofs.Ytckclacdmpcpbaa
