/-
  RlogExact: for every log, every place behind which entries may follow, every list of entries and every bound the law answers true and leaves its arguments alone. No condition.
-/
import Derived.Test.YtlknkhmhdmpdkaaLj
import Derived.Test.YtlknkhmhdmpdkaaOe
namespace Go.Proofs.Ytlknkhmhdmpdkaa
open Go.ChangeShapes Go.WideShapes Go.ChangeAt Go.RowKit Wm Mm Lg Opn
open Go.ChangeMaps (open_string)
set_option linter.unusedVariables false

set_option maxRecDepth 100000 in
theorem rlogExact_lifted (os : Os) (started : os.Started) (H : Type) (enc : TypeId × Value → H) :
    ReturnsInHanded {} Try.checked os 7 .any (Rows.rlogExactSpec.pre6 enc Try.prog Try.f7 Rows.rlogExactRow.domain false) (Rows.rlogExactSpec.post enc Try.prog Try.f7 false true false false) := by
  refine returnsInHanded_of_change_sized (C := Try.checked) law_own started (by kernel_rfl) Try.func7
    (ChangeSpec.witness6 (enc := enc) (C := Try.checked) false ⟨#[], #[.agg #[.int .i64 0, .int .i64 0, .slice none 0 0], .int .i64 0, .int .i64 0, .slice none 0 0, .int .i64 0], []⟩ 8 (by kernel_rfl) (by kernel_rfl) (by kernel_rfl) (by kernel_rfl)) ?_
  intro W base args ds gs before hval0 hW _ hsz0 _
  have hsz : (DataW.weightsEach Try.prog (Try.f7.params.toList ++ Rows.rlogExactSpec.plain.varTypes Try.prog) (ds ++ gs)).all (· ≤ reachBytes) = true := hsz0
  have hval : ∀ (j : Nat) t v, Try.f7.params[j]? = some t → args[j]? = some v → Value.okWide Try.prog W .any base t v := hval0
  have hW' : DataW.Whole enc Try.prog Try.f7.params.toList Rows.rlogExactSpec.vars false W args.toList ds gs before := hW
  obtain ⟨p, q, hA0, hV, rfl, hfz, hnd⟩ := hW
  have hA : DataW.TrodAll enc Try.prog W 0 (fun _ => true) true Try.f7.params.toList args.toList ds p := hA0
  rw [Try.params7] at hA hval hsz
  obtain ⟨v0, vs0, d0, ds0, p0, q0, hargs, rfl, rfl, h0, r0⟩ := trodAll_cons hA
  obtain ⟨v1, vs1, d1, ds1, p1, q1, rfl, rfl, rfl, h1, r1⟩ := trodAll_cons r0
  obtain ⟨v2, vs2, d2, ds2, p2, q2, rfl, rfl, rfl, h2, r2⟩ := trodAll_cons r1
  obtain ⟨v3, vs3, d3, ds3, p3, q3, rfl, rfl, rfl, h3, r3⟩ := trodAll_cons r2
  obtain ⟨v4, vs4, d4, ds4, p4, q4, rfl, rfl, rfl, h4, r4⟩ := trodAll_cons r3
  obtain ⟨rfl, rfl, rfl⟩ := trodAll_nil r4
  obtain rfl : args = #[v0, v1, v2, v3, v4] := by cases args; simp_all
  obtain ⟨rfl, rfl⟩ := trodVars_none hV
  clear hA0 hval0 hsz0
  obtain ⟨⟨lb, bt, l⟩, ⟨ev, hcs0, hl⟩, hfl⟩ := opens_log.arg h0
  obtain ⟨cs0, rfl, _⟩ := okWide_struct Try.underlying52 (hval 0 52 v0 rfl rfl)
  have e0 : cs0 = #[.int .i64 lb, .int .i64 bt, ev] := by cases cs0; simpa [Value.cells] using hcs0
  subst e0
  obtain ⟨es, ⟨ev2, hcs3, he⟩, hfe⟩ := opens_entries.arg h3
  obtain ⟨a3, n3, k3, rfl⟩ := okWide_slice Try.underlying50 (hval 3 50 v3 rfl rfl)
  obtain rfl : Value.slice a3 n3 k3 = ev2 := by simpa [Value.cells] using hcs3
  obtain ⟨prev, rfl⟩ := okWide_int Try.underlying3 (hval 1 3 v1 rfl rfl)
  obtain ⟨term, rfl⟩ := okWide_int Try.underlying3 (hval 2 3 v2 rfl rfl)
  obtain ⟨most, rfl⟩ := okWide_int Try.underlying3 (hval 4 3 v4 rfl rfl)
  have hf0 : l.length ≤ 3518437208780 := hfl (weights_at hsz (j := 0) (t := 52) rfl rfl)
  have hf3 : es.length ≤ 3518437208780 := hfe (weights_at hsz (j := 3) (t := 50) rfl rfl)
  refine (law_rlogExact lb bt prev term most ev (.slice a3 n3 k3) l es _ _ W hl he hf0 hf3).mono fun e W' ⟨he, hb⟩ => ?_
  exact ⟨_, he, law_post (by kernel_rfl) (by kernel_rfl) rfl rfl rfl rfl hW' hb⟩

theorem rlogExact_holds : Rows.RlogExactSaid :=
  OpenClaim.holds_of_wide 7 Try.f7 rfl rfl rfl rfl rfl rfl rfl ⟨rfl, rfl, rfl, rfl, rfl⟩ rfl rfl rfl rfl rfl (by kernel_rfl) Try.func7 (by kernel_rfl)
    (of_decide_eq_true (by kernel_rfl)) (by unfold Func.isWrapper; first | (rw [if_pos (by decide +kernel)]; kernel_rfl) | (rw [if_neg (by decide +kernel)]; exact ⟨rfl, rfl⟩))
    (fun os started H enc _ => rlogExact_lifted os started H enc)

end Go.Proofs.Ytlknkhmhdmpdkaa
