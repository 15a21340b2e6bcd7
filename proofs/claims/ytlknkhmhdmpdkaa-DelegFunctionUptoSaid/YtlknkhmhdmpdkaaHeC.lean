/-
  DelegFunction: for every list of ranges given to hosts and every list of further keys, where what is read is of bulk at most 1048576, the law that a delegation is what was given last answers true and leaves its arguments alone. Condition: the bulk.
-/
import Derived.Test.YtlknkhmhdmpdkaaHe
import Derived.Test.YtlknkhmhdmpdkaaOc
import Derived.JoinedCond
namespace Go.Proofs.Ytlknkhmhdmpdkaa
open Go.ChangeShapes Go.WideShapes Go.ChangeAt Go.RowKit Wm Mm Dg Opn
set_option linter.unusedVariables false

set_option maxRecDepth 100000 in
theorem delegFunction_lifted (os : Os) (started : os.Started) (H : Type) (enc : TypeId × Value → H) (F0 : Stop.Interp) :
    ReturnsInHanded {} Try.checked os 5 .any ((Rows.OpenSpec.upto Rows.delegFunctionSpec).pre6 enc Try.prog Try.f5 Rows.delegFunctionUptoRow.domain false) (((Rows.OpenSpec.upto Rows.delegFunctionSpec).at F0).post enc Try.prog Try.f5 false true false false) := by
  refine returnsInHanded_of_cond (C := Try.checked) (s := Rows.OpenSpec.upto Rows.delegFunctionSpec) (k := Rows.uptoSmall) rfl law_own started (by kernel_rfl) Try.func5
    (OpenSpec.witness (enc := enc) (C := Try.checked) (s := Rows.OpenSpec.upto Rows.delegFunctionSpec) (k := Rows.uptoSmall) rfl false ⟨#[], #[.slice none 0 0, .slice none 0 0], []⟩ 8 (by kernel_rfl) (by kernel_rfl) (by kernel_rfl)
      (x := ([.nil, .nil], [], [])) (by kernel_rfl) (by kernel_rfl) (by kernel_rfl)) ?_
  intro W base args ds gs before hval0 hW _ hk _
  have hval : ∀ (j : Nat) t v, Try.f5.params[j]? = some t → args[j]? = some v → Value.okWide Try.prog W .any base t v := hval0
  have hW' : DataW.Whole enc Try.prog Try.f5.params.toList Rows.delegFunctionSpec.vars false W args.toList ds gs before := hW
  obtain ⟨p, q, hA0, hV, rfl, hfz, hnd⟩ := hW
  have hA : DataW.TrodAll enc Try.prog W 0 (fun _ => true) true Try.f5.params.toList args.toList ds p := hA0
  rw [Try.params5] at hA hval
  obtain ⟨v0, vs0, d0, ds0, p0, q0, hargs, rfl, rfl, h0, r0⟩ := trodAll_cons hA
  obtain ⟨v1, vs1, d1, ds1, p1, q1, rfl, rfl, rfl, h1, r1⟩ := trodAll_cons r0
  obtain ⟨rfl, rfl, rfl⟩ := trodAll_nil r1
  obtain rfl : args = #[v0, v1] := by cases args; simp_all
  obtain ⟨rfl, rfl⟩ := trodVars_none hV
  clear hA0 hval0
  obtain ⟨raw, ⟨lv, hcs0, hl⟩, _⟩ := opens_givens.arg h0
  obtain ⟨a0, n0, k0, rfl⟩ := okWide_slice Try.underlying42 (hval 0 42 v0 rfl rfl)
  obtain rfl : Value.slice a0 n0 k0 = lv := by simpa [Value.cells] using hcs0
  obtain ⟨more, ⟨mv, hcs1, hm⟩, _⟩ := opens_texts.arg h1
  obtain ⟨a1, n1, k1, rfl⟩ := okWide_slice Try.underlying43 (hval 1 43 v1 rfl rfl)
  obtain rfl : Value.slice a1 n1 k1 = mv := by simpa [Value.cells] using hcs1
  have hk' : Rows.uptoBulkAll ([d0, d1] ++ []) ≤ 1048576 := of_decide_eq_true hk
  have hk2 : Rows.uptoBulk d0 + (Rows.uptoBulk d1 + 0) ≤ 1048576 := by simpa [Rows.uptoBulkAll] using hk'
  have hb0 := bulk_slice Try.underlying42 h0 hcs0 hl
  have hb1 := bulk_slice Try.underlying43 h1 hcs1 hm
  refine (law_delegFunction (.slice a0 n0 k0) (.slice a1 n1 k1) raw more _ _ W hl hm (by omega) (by omega)).mono fun e W' ⟨he, hb⟩ => ?_
  exact ⟨_, he, law_post (s := Rows.delegFunctionSpec) (by kernel_rfl) (by kernel_rfl) rfl rfl rfl rfl hW' hb⟩

theorem delegFunction_holds : Rows.DelegFunctionUptoSaid :=
  OpenClaim.holds_of_cond 5 Try.f5 rfl rfl rfl rfl rfl rfl rfl ⟨rfl, rfl, rfl, rfl, rfl⟩ rfl rfl rfl rfl rfl (by kernel_rfl) Try.func5 (by kernel_rfl)
    (of_decide_eq_true (by kernel_rfl)) (by unfold Func.isWrapper; first | (rw [if_pos (by decide +kernel)]; kernel_rfl) | (rw [if_neg (by decide +kernel)]; exact ⟨rfl, rfl⟩))
    (fun os started H enc _ F0 => delegFunction_lifted os started H enc F0)

end Go.Proofs.Ytlknkhmhdmpdkaa
