/-
  WireEntries: for every entry, every configuration and every text the law answers true and leaves its arguments alone. No condition.
-/
import Derived.Test.YtbonmeogmjfkeaaLEnt
import Derived.Test.YtbonmeogmjfkeaaOp
namespace Go.Proofs.Ytbonmeogmjfkeaa
open Go.ChangeShapes Go.WideShapes Go.ChangeAt Go.RowKit Wm Mm Opn
open Go.ChangeMaps (open_string)
set_option linter.unusedVariables false

set_option maxRecDepth 100000 in
theorem wireEntries_lifted (os : Os) (started : os.Started) (H : Type) (enc : TypeId × Value → H) :
    ReturnsInHanded {} Try.checked os 10 .any (Rows.wireEntriesSpec.pre6 enc Try.prog Try.f10 Rows.wireEntriesRow.domain false) (Rows.wireEntriesSpec.post enc Try.prog Try.f10 false true false false) := by
  refine returnsInHanded_of_change_sized (C := Try.checked) law_own started (by kernel_rfl) Try.func10
    (ChangeSpec.witness6 (enc := enc) (C := Try.checked) false ⟨#[], #[.agg #[.int .i64 0, .int .i64 0, .int .i64 0, .string .empty], .agg #[.slice none 0 0, .slice none 0 0, .slice none 0 0], .string .empty], []⟩ 8 (by kernel_rfl) (by kernel_rfl) (by kernel_rfl) (by kernel_rfl)) ?_
  intro W base args ds gs before hval0 hW _ hsz0 _
  have hsz : (DataW.weightsEach Try.prog (Try.f10.params.toList ++ Rows.wireEntriesSpec.plain.varTypes Try.prog) (ds ++ gs)).all (· ≤ reachBytes) = true := hsz0
  have hval : ∀ (j : Nat) t v, Try.f10.params[j]? = some t → args[j]? = some v → Value.okWide Try.prog W .any base t v := hval0
  have hW' : DataW.Whole enc Try.prog Try.f10.params.toList Rows.wireEntriesSpec.vars false W args.toList ds gs before := hW
  obtain ⟨p, q, hA0, hV, rfl, hfz, hnd⟩ := hW
  have hA : DataW.TrodAll enc Try.prog W 0 (fun _ => true) true Try.f10.params.toList args.toList ds p := hA0
  rw [Try.params10] at hA hval hsz
  obtain ⟨v0, vs0, d0, ds0, p0, q0, hargs, rfl, rfl, h0, r0⟩ := trodAll_cons hA
  obtain ⟨v1, vs1, d1, ds1, p1, q1, rfl, rfl, rfl, h1, r1⟩ := trodAll_cons r0
  obtain ⟨v2, vs2, d2, ds2, p2, q2, rfl, rfl, rfl, h2, r2⟩ := trodAll_cons r1
  obtain ⟨rfl, rfl, rfl⟩ := trodAll_nil r2
  obtain rfl : args = #[v0, v1, v2] := by cases args; simp_all
  obtain ⟨rfl, rfl⟩ := trodVars_none hV
  clear hA0 hval0 hsz0
  obtain ⟨index, term, kind, data, rfl⟩ := open_ent (hval 0 92 v0 rfl rfl) h0
  obtain ⟨x, y, z, c, rfl, hc, hfit⟩ := open_conf (hval 1 94 v1 rfl rfl) h1
  obtain ⟨s2, rfl, rfl, rfl, hs2⟩ := open_string Try.underlying9 (hval 2 9 v2 rfl rfl) h2
  have hl2 : s2.data.toList.length ≤ reachBytes := sized_string hsz (j := 2) (t := 9) rfl rfl
  have hf := hfit (weights_at hsz (j := 1) (t := 94) rfl rfl)
  have hr : reachBytes = 140737488351232 := rfl
  refine (law_entries index term kind data x y z c s2.data.toList W hc hf.1 hf.2.1 hf.2.2 (by omega)).mono fun e W' ⟨he, hb⟩ => ?_
  exact ⟨_, he, law_post (by kernel_rfl) (by kernel_rfl) rfl rfl rfl rfl hW' hb⟩

theorem wireEntries_holds : Rows.WireEntriesSaid :=
  OpenClaim.holds_of_wide 10 Try.f10 rfl rfl rfl rfl rfl rfl rfl ⟨rfl, rfl, rfl, rfl, rfl⟩ rfl rfl rfl rfl rfl (by kernel_rfl) Try.func10 (by kernel_rfl)
    (of_decide_eq_true (by kernel_rfl)) (by unfold Func.isWrapper; first | (rw [if_pos (by decide +kernel)]; kernel_rfl) | (rw [if_neg (by decide +kernel)]; exact ⟨rfl, rfl⟩))
    (fun os started H enc _ => wireEntries_lifted os started H enc)

end Go.Proofs.Ytbonmeogmjfkeaa
