/-
  KvExact: for every list of pairs and every list of commands the law answers true and leaves its arguments alone. No condition.
-/
import Derived.Test.YtfgmpfkbflpiaaaOkv
namespace Go.Proofs.Ytfgmpfkbflpiaaa
open Go.ChangeShapes Go.WideShapes Go.ChangeAt Go.RowKit Wm Mm Kv Opn
set_option linter.unusedVariables false

set_option maxRecDepth 100000 in
theorem kvExact_lifted (os : Os) (started : os.Started) (H : Type) (enc : TypeId × Value → H) :
    ReturnsInHanded {} Try.checked os 3 .any (Rows.kvExactSpec.pre6 enc Try.prog Try.f3 Rows.kvExactRow.domain false) (Rows.kvExactSpec.post enc Try.prog Try.f3 false true false false) := by
  refine returnsInHanded_of_change_sized (C := Try.checked) law_own started (by kernel_rfl) Try.func3
    (ChangeSpec.witness6 (enc := enc) (C := Try.checked) false ⟨#[], #[.slice none 0 0, .slice none 0 0], []⟩ 8 (by kernel_rfl) (by kernel_rfl) (by kernel_rfl) (by kernel_rfl)) ?_
  intro W base args ds gs before hval0 hW _ hsz0 _
  have hsz : (DataW.weightsEach Try.prog (Try.f3.params.toList ++ Rows.kvExactSpec.plain.varTypes Try.prog) (ds ++ gs)).all (· ≤ reachBytes) = true := hsz0
  have hval : ∀ (j : Nat) t v, Try.f3.params[j]? = some t → args[j]? = some v → Value.okWide Try.prog W .any base t v := hval0
  have hW' : DataW.Whole enc Try.prog Try.f3.params.toList Rows.kvExactSpec.vars false W args.toList ds gs before := hW
  obtain ⟨p, q, hA0, hV, rfl, hfz, hnd⟩ := hW
  have hA : DataW.TrodAll enc Try.prog W 0 (fun _ => true) true Try.f3.params.toList args.toList ds p := hA0
  rw [Try.params3] at hA hval hsz
  obtain ⟨v0, vs0, d0, ds0, p0, q0, hargs, rfl, rfl, h0, r0⟩ := trodAll_cons hA
  obtain ⟨v1, vs1, d1, ds1, p1, q1, rfl, rfl, rfl, h1, r1⟩ := trodAll_cons r0
  obtain ⟨rfl, rfl, rfl⟩ := trodAll_nil r1
  obtain rfl : args = #[v0, v1] := by cases args; simp_all
  obtain ⟨rfl, rfl⟩ := trodVars_none hV
  clear hA0 hval0 hsz0
  obtain ⟨l, ⟨lv, hcs0, hl⟩, hfl⟩ := opens_pairs.arg h0
  obtain ⟨a0, n0, k0, rfl⟩ := okWide_slice Try.underlying22 (hval 0 22 v0 rfl rfl)
  obtain rfl : Value.slice a0 n0 k0 = lv := by simpa [Value.cells] using hcs0
  obtain ⟨cs, ⟨cv, hcs1, hc⟩, hfc⟩ := opens_cmds.arg h1
  obtain ⟨a1, n1, k1, rfl⟩ := okWide_slice Try.underlying23 (hval 1 23 v1 rfl rfl)
  obtain rfl : Value.slice a1 n1 k1 = cv := by simpa [Value.cells] using hcs1
  have hf0 : l.length ≤ 3518437208780 := hfl (weights_at hsz (j := 0) (t := 22) rfl rfl)
  have hf1 : cs.length ≤ 2932031007320 := hfc (weights_at hsz (j := 1) (t := 23) rfl rfl)
  refine (law_kvExact (.slice a0 n0 k0) (.slice a1 n1 k1) l cs _ _ W hl hc hf0 (by omega)).mono fun e W' ⟨he, hb⟩ => ?_
  exact ⟨_, he, law_post (by kernel_rfl) (by kernel_rfl) rfl rfl rfl rfl hW' hb⟩

theorem kvExact_holds : Rows.KvExactSaid :=
  OpenClaim.holds_of_wide 3 Try.f3 rfl rfl rfl rfl rfl rfl rfl ⟨rfl, rfl, rfl, rfl, rfl⟩ rfl rfl rfl rfl rfl (by kernel_rfl) Try.func3 (by kernel_rfl)
    (of_decide_eq_true (by kernel_rfl)) (by unfold Func.isWrapper; first | (rw [if_pos (by decide +kernel)]; kernel_rfl) | (rw [if_neg (by decide +kernel)]; exact ⟨rfl, rfl⟩))
    (fun os started H enc _ => kvExact_lifted os started H enc)

end Go.Proofs.Ytfgmpfkbflpiaaa
