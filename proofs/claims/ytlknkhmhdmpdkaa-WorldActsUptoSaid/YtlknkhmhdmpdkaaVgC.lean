/-
  WorldActs: for every list of acts on files whose bulk is at most 1048576 the law that the program's files behind each act are the document's files answers true and leaves its argument alone. Condition: the bulk.
-/
import Derived.Test.YtlknkhmhdmpdkaaVg
import Derived.Test.YtlknkhmhdmpdkaaOd
import Derived.JoinedCond
namespace Go.Proofs.Ytlknkhmhdmpdkaa
open Go.ChangeShapes Go.WideShapes Go.ChangeAt Go.RowKit Wm Mm Fl Opn
set_option linter.unusedVariables false

theorem cells_intA : Try.prog.cellsOf 3 = 1 := by kernel_rfl
theorem cells_strA : Try.prog.cellsOf 9 = 1 := by kernel_rfl
theorem cells_act : Try.prog.cellsOf 26 = 5 := by kernel_rfl
set_option maxRecDepth 100000 in
theorem opens_act : OpensB Try.prog 26 (fun _ cs (e : ActP) => cs = rowA e) (fun n e => e.dat.length ≤ n) := by
  refine ⟨fun _ _ _ h1 h => Nat.le_trans h h1, fun H enc w base spare held n cs x hx => ?_⟩
  obtain ⟨hl, hg⟩ := struct_atB Try.underlying26 hx
  rw [cells_act] at hl
  match cs, hl with
  | [c0, c1, c2, c3, c4], _ =>
    obtain ⟨m0, y0, h0, _⟩ := hg 0 _ rfl
    obtain ⟨m1, y1, h1, _⟩ := hg 1 _ rfl
    obtain ⟨m2, y2, h2, _⟩ := hg 2 _ rfl
    obtain ⟨m3, y3, h3, b3⟩ := hg 3 _ rfl
    obtain ⟨m4, y4, h4, _⟩ := hg 4 _ rfl
    have h0 : DataW.trod enc Try.prog w base spare held m0 3 (([c0, c1, c2, c3, c4].drop 0).take (Try.prog.cellsOf 3)) = some y0 := h0
    have h1 : DataW.trod enc Try.prog w base spare held m1 9 (([c0, c1, c2, c3, c4].drop 1).take (Try.prog.cellsOf 9)) = some y1 := h1
    have h2 : DataW.trod enc Try.prog w base spare held m2 9 (([c0, c1, c2, c3, c4].drop 2).take (Try.prog.cellsOf 9)) = some y2 := h2
    have h3 : DataW.trod enc Try.prog w base spare held m3 9 (([c0, c1, c2, c3, c4].drop 3).take (Try.prog.cellsOf 9)) = some y3 := h3
    have h4 : DataW.trod enc Try.prog w base spare held m4 3 (([c0, c1, c2, c3, c4].drop 4).take (Try.prog.cellsOf 3)) = some y4 := h4
    rw [cells_intA] at h0 h4
    rw [cells_strA] at h1 h2 h3
    obtain ⟨a, ha, _⟩ := (opensB_int Try.underlying3).2 enc w base spare held m0 _ y0 h0
    obtain ⟨b, hb, _⟩ := (opensB_str Try.underlying9).2 enc w base spare held m1 _ y1 h1
    obtain ⟨c, hc, _⟩ := (opensB_str Try.underlying9).2 enc w base spare held m2 _ y2 h2
    obtain ⟨d, hd, hd2⟩ := (opensB_str Try.underlying9).2 enc w base spare held m3 _ y3 h3
    obtain ⟨e, he, _⟩ := (opensB_int Try.underlying3).2 enc w base spare held m4 _ y4 h4
    obtain rfl : c0 = .int .i64 a := by simpa using ha
    obtain rfl : c1 = str b := by simpa using hb
    obtain rfl : c2 = str c := by simpa using hc
    obtain rfl : c3 = str d := by simpa using hd
    obtain rfl : c4 = .int .i64 e := by simpa using he
    exact ⟨⟨a, b, c, d, e⟩, rfl, Nat.le_trans hd2 b3⟩
theorem opens_acts : OpensB Try.prog 22 (fun w cs (l : List ActP) => ∃ v, cs = [v] ∧ Acts (fun _ => True) w v l) (fun n l => l.length ≤ n ∧ ∀ y ∈ l, y.dat.length ≤ n) :=
  opensB_sl rowA Try.underlying22 cells_act (by decide) opens_act

set_option maxRecDepth 100000 in
theorem worldActs_lifted (os : Os) (started : os.Started) (H : Type) (enc : TypeId × Value → H) (F0 : Stop.Interp) :
    ReturnsInHanded {} Try.checked os 3 .any ((Rows.OpenSpec.upto Rows.worldActsSpec).pre6 enc Try.prog Try.f3 Rows.worldActsUptoRow.domain false) (((Rows.OpenSpec.upto Rows.worldActsSpec).at F0).post enc Try.prog Try.f3 false true false false) := by
  refine returnsInHanded_of_cond (C := Try.checked) (s := Rows.OpenSpec.upto Rows.worldActsSpec) (k := Rows.uptoSmall) rfl law_own started (by kernel_rfl) Try.func3
    (OpenSpec.witness (enc := enc) (C := Try.checked) (s := Rows.OpenSpec.upto Rows.worldActsSpec) (k := Rows.uptoSmall) rfl false ⟨#[], #[.slice none 0 0], []⟩ 8 (by kernel_rfl) (by kernel_rfl) (by kernel_rfl)
      (x := ([.nil], [], [])) (by kernel_rfl) (by kernel_rfl) (by kernel_rfl)) ?_
  intro W base args ds gs before hval0 hW _ hk _
  have hval : ∀ (j : Nat) t v, Try.f3.params[j]? = some t → args[j]? = some v → Value.okWide Try.prog W .any base t v := hval0
  have hW' : DataW.Whole enc Try.prog Try.f3.params.toList Rows.worldActsSpec.vars false W args.toList ds gs before := hW
  obtain ⟨p, q, hA0, hV, rfl, hfz, hnd⟩ := hW
  have hA : DataW.TrodAll enc Try.prog W 0 (fun _ => true) true Try.f3.params.toList args.toList ds p := hA0
  rw [Try.params3] at hA hval
  obtain ⟨v0, vs0, d0, ds0, p0, q0, hargs, rfl, rfl, h0, r0⟩ := trodAll_cons hA
  obtain ⟨rfl, rfl, rfl⟩ := trodAll_nil r0
  obtain rfl : args = #[v0] := by cases args; simp_all
  obtain ⟨rfl, rfl⟩ := trodVars_none hV
  clear hA0 hval0
  obtain ⟨acts, ⟨lv, hcs0, hl⟩, hB⟩ := opens_acts.arg h0
  obtain ⟨a0, n0, k0, rfl⟩ := okWide_slice Try.underlying22 (hval 0 22 v0 rfl rfl)
  obtain rfl : Value.slice a0 n0 k0 = lv := by simpa [Value.cells] using hcs0
  have hk' : Rows.uptoBulkAll ([d0] ++ []) ≤ 1048576 := of_decide_eq_true hk
  have hk2 : Rows.uptoBulk d0 ≤ 1048576 := by simpa [Rows.uptoBulkAll] using hk'
  have hB2 := opens_acts.mono hk2 hB
  refine (law_worldActs (.slice a0 n0 k0) acts _ W hl hB2.1 hB2.2).mono fun e W' ⟨he, hb⟩ => ?_
  exact ⟨_, he, law_post (s := Rows.worldActsSpec) (by kernel_rfl) (by kernel_rfl) rfl rfl rfl rfl hW' hb⟩

theorem worldActs_holds : Rows.WorldActsUptoSaid :=
  OpenClaim.holds_of_cond 3 Try.f3 rfl rfl rfl rfl rfl rfl rfl ⟨rfl, rfl, rfl, rfl, rfl⟩ rfl rfl rfl rfl rfl (by kernel_rfl) Try.func3 (by kernel_rfl)
    (of_decide_eq_true (by kernel_rfl)) (by unfold Func.isWrapper; first | (rw [if_pos (by decide +kernel)]; kernel_rfl) | (rw [if_neg (by decide +kernel)]; exact ⟨rfl, rfl⟩))
    (fun os started H enc _ F0 => worldActs_lifted os started H enc F0)

end Go.Proofs.Ytlknkhmhdmpdkaa
