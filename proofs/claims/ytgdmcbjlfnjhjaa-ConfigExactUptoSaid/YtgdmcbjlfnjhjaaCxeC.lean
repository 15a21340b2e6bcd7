/-
  ConfigExact: for every configuration, operations and nodes whose bulk is at most 1048576 the law that the program's configurations are the document's answers true and leaves its arguments alone. Condition: the bulk.
-/
import Derived.Test.YtgdmcbjlfnjhjaaCxe
import Derived.Test.YtgdmcbjlfnjhjaaOd
import Derived.JoinedCond
namespace Go.Proofs.Ytgdmcbjlfnjhjaa
open Go.ChangeShapes Go.WideShapes Go.ChangeAt Go.RowKit Wm Mm Opn
set_option linter.unusedVariables false

theorem cells_intX : Try.prog.cellsOf 3 = 1 := by kernel_rfl
theorem cells_intsX : Try.prog.cellsOf 22 = 1 := by kernel_rfl
theorem cells_opX : Try.prog.cellsOf 44 = 2 := by kernel_rfl
theorem cells_confX : Try.prog.cellsOf 25 = 3 := by kernel_rfl
theorem opens_intsX : OpensB Try.prog 22 (fun w cs (l : List Int) => ∃ v, cs = [v] ∧ Ints w v l) (fun n l => l.length ≤ n) := by
  have h := opensB_sl rowI Try.underlying22 cells_intX (by decide) (opensB_int (P := Try.prog) Try.underlying3)
  refine ⟨fun n m y h1 h2 => Nat.le_trans h2 h1, fun H enc w base spare held n cs x hx => ?_⟩
  obtain ⟨y, ⟨v, h1, h2⟩, h3⟩ := h.2 enc w base spare held n cs x hx
  exact ⟨y, ⟨v, h1, IntsS.ints h2⟩, h3.1⟩
set_option maxRecDepth 100000 in
theorem opens_opX : OpensB Try.prog 44 (fun _ cs (e : OpP) => cs = rowQ e) (fun _ _ => True) := by
  refine ⟨fun _ _ _ _ h => h, fun H enc w base spare held n cs x hx => ?_⟩
  obtain ⟨hl, hg⟩ := struct_atB Try.underlying44 hx
  rw [cells_opX] at hl
  match cs, hl with
  | [c0, c1], _ =>
    obtain ⟨m0, y0, h0, _⟩ := hg 0 _ rfl
    obtain ⟨m1, y1, h1, _⟩ := hg 1 _ rfl
    have h0 : DataW.trod enc Try.prog w base spare held m0 3 (([c0, c1].drop 0).take (Try.prog.cellsOf 3)) = some y0 := h0
    have h1 : DataW.trod enc Try.prog w base spare held m1 3 (([c0, c1].drop 1).take (Try.prog.cellsOf 3)) = some y1 := h1
    rw [cells_intX] at h0 h1
    obtain ⟨a, ha, _⟩ := (opensB_int Try.underlying3).2 enc w base spare held m0 _ y0 h0
    obtain ⟨b, hb, _⟩ := (opensB_int Try.underlying3).2 enc w base spare held m1 _ y1 h1
    obtain rfl : c0 = .int .i64 a := by simpa using ha
    obtain rfl : c1 = .int .i64 b := by simpa using hb
    exact ⟨⟨a, b⟩, rfl, trivial⟩
theorem opens_opsX : OpensB Try.prog 42 (fun w cs (l : List OpP) => ∃ v, cs = [v] ∧ Sl 2 (Plain rowQ) (fun _ => True) w v l) (fun n l => l.length ≤ n ∧ ∀ y ∈ l, True) :=
  opensB_sl rowQ Try.underlying42 cells_opX (by decide) opens_opX
set_option maxRecDepth 100000 in
theorem opens_confX : OpensB Try.prog 25 (fun w cs (c : Conf) => ∃ a b d, cs = [a, b, d] ∧ Config3 w a b d c) (fun n c => c.v.length ≤ n ∧ c.n.length ≤ n ∧ c.l.length ≤ n) := by
  refine ⟨fun n m y h1 h2 => ⟨Nat.le_trans h2.1 h1, Nat.le_trans h2.2.1 h1, Nat.le_trans h2.2.2 h1⟩, fun H enc w base spare held n cs x hx => ?_⟩
  obtain ⟨hl, hg⟩ := struct_atB Try.underlying25 hx
  rw [cells_confX] at hl
  match cs, hl with
  | [c0, c1, c2], _ =>
    obtain ⟨m0, y0, h0, b0⟩ := hg 0 _ rfl
    obtain ⟨m1, y1, h1, b1⟩ := hg 1 _ rfl
    obtain ⟨m2, y2, h2, b2⟩ := hg 2 _ rfl
    have h0 : DataW.trod enc Try.prog w base spare held m0 22 (([c0, c1, c2].drop 0).take (Try.prog.cellsOf 22)) = some y0 := h0
    have h1 : DataW.trod enc Try.prog w base spare held m1 22 (([c0, c1, c2].drop 1).take (Try.prog.cellsOf 22)) = some y1 := h1
    have h2 : DataW.trod enc Try.prog w base spare held m2 22 (([c0, c1, c2].drop 2).take (Try.prog.cellsOf 22)) = some y2 := h2
    rw [cells_intsX] at h0 h1 h2
    obtain ⟨a, ⟨va, ha, ia⟩, na⟩ := opens_intsX.2 enc w base spare held m0 _ y0 h0
    obtain ⟨b, ⟨vb, hb, ib⟩, nb⟩ := opens_intsX.2 enc w base spare held m1 _ y1 h1
    obtain ⟨d, ⟨vd, hd, id_⟩, nd⟩ := opens_intsX.2 enc w base spare held m2 _ y2 h2
    obtain rfl : c0 = va := by simpa using ha
    obtain rfl : c1 = vb := by simpa using hb
    obtain rfl : c2 = vd := by simpa using hd
    exact ⟨⟨a, b, d⟩, ⟨c0, c1, c2, rfl, ia, ib, id_⟩, Nat.le_trans na b0, Nat.le_trans nb b1, Nat.le_trans nd b2⟩

set_option maxRecDepth 100000 in
theorem configExact_lifted (os : Os) (started : os.Started) (H : Type) (enc : TypeId × Value → H) (F0 : Stop.Interp) :
    ReturnsInHanded {} Try.checked os 6 .any ((Rows.OpenSpec.upto Rows.configExactSpec).pre6 enc Try.prog Try.f6 Rows.configExactUptoRow.domain false) (((Rows.OpenSpec.upto Rows.configExactSpec).at F0).post enc Try.prog Try.f6 false true false false) := by
  refine returnsInHanded_of_cond (C := Try.checked) (s := Rows.OpenSpec.upto Rows.configExactSpec) (k := Rows.uptoSmall) rfl law_own started (by kernel_rfl) Try.func6
    (OpenSpec.witness (enc := enc) (C := Try.checked) (s := Rows.OpenSpec.upto Rows.configExactSpec) (k := Rows.uptoSmall) rfl false ⟨#[], #[.agg #[.slice none 0 0, .slice none 0 0, .slice none 0 0], .slice none 0 0, .slice none 0 0], []⟩ 8 (by kernel_rfl) (by kernel_rfl) (by kernel_rfl)
      (x := ([.agg [.nil, .nil, .nil], .nil, .nil], [], [])) (by kernel_rfl) (by kernel_rfl) (by kernel_rfl)) ?_
  intro W base args ds gs before hval0 hW _ hk _
  have hval : ∀ (j : Nat) t v, Try.f6.params[j]? = some t → args[j]? = some v → Value.okWide Try.prog W .any base t v := hval0
  have hW' : DataW.Whole enc Try.prog Try.f6.params.toList Rows.configExactSpec.vars false W args.toList ds gs before := hW
  obtain ⟨p, q, hA0, hV, rfl, hfz, hnd⟩ := hW
  have hA : DataW.TrodAll enc Try.prog W 0 (fun _ => true) true Try.f6.params.toList args.toList ds p := hA0
  rw [Try.params6] at hA hval
  obtain ⟨v0, vs0, d0, ds0, p0, q0, hargs, rfl, rfl, h0, r0⟩ := trodAll_cons hA
  obtain ⟨v1, vs1, d1, ds1, p1, q1, rfl, rfl, rfl, h1, r1⟩ := trodAll_cons r0
  obtain ⟨v2, vs2, d2, ds2, p2, q2, rfl, rfl, rfl, h2, r2⟩ := trodAll_cons r1
  obtain ⟨rfl, rfl, rfl⟩ := trodAll_nil r2
  obtain rfl : args = #[v0, v1, v2] := by cases args; simp_all
  obtain ⟨rfl, rfl⟩ := trodVars_none hV
  clear hA0 hval0
  have hk' : Rows.uptoBulkAll ([d0, d1, d2] ++ []) ≤ 1048576 := of_decide_eq_true hk
  have hk0 : Rows.uptoBulk d0 ≤ 1048576 := by simp only [List.append_nil, Rows.uptoBulkAll] at hk'; omega
  have hk1 : Rows.uptoBulk d1 ≤ 1048576 := by simp only [List.append_nil, Rows.uptoBulkAll] at hk'; omega
  have hk2 : Rows.uptoBulk d2 ≤ 1048576 := by simp only [List.append_nil, Rows.uptoBulkAll] at hk'; omega
  obtain ⟨c, ⟨a, b, d, hcs0, hc⟩, hB0⟩ := opens_confX.arg h0
  obtain ⟨cs0, rfl, _⟩ := okWide_struct Try.underlying25 (hval 0 25 v0 rfl rfl)
  have e0 : cs0 = #[a, b, d] := by cases cs0; simpa [Value.cells] using hcs0
  subst e0
  obtain ⟨ops, ⟨vo, hcs1, ho⟩, hB1⟩ := opens_opsX.arg h1
  obtain ⟨a1, n1, k1, rfl⟩ := okWide_slice Try.underlying42 (hval 1 42 v1 rfl rfl)
  obtain rfl : Value.slice a1 n1 k1 = vo := by simpa [Value.cells] using hcs1
  obtain ⟨hv, ⟨vh, hcs2, hh⟩, hB2⟩ := opens_intsX.arg h2
  obtain ⟨a2, n2, k2, rfl⟩ := okWide_slice Try.underlying22 (hval 2 22 v2 rfl rfl)
  obtain rfl : Value.slice a2 n2 k2 = vh := by simpa [Value.cells] using hcs2
  have g0 := opens_confX.mono hk0 hB0
  have g1 := opens_opsX.mono hk1 hB1
  have g2 := opens_intsX.mono hk2 hB2
  refine (law_exact a b d (.slice a1 n1 k1) (.slice a2 n2 k2) c ops hv W hc ho hh g0.1 g0.2.1 g0.2.2 g2 g1.1).mono fun e W' ⟨he, hb⟩ => ?_
  exact ⟨_, he, law_post (s := Rows.configExactSpec) (by kernel_rfl) (by kernel_rfl) rfl rfl rfl rfl hW' hb⟩

theorem configExact_holds : Rows.ConfigExactUptoSaid :=
  OpenClaim.holds_of_cond 6 Try.f6 rfl rfl rfl rfl rfl rfl rfl ⟨rfl, rfl, rfl, rfl, rfl⟩ rfl rfl rfl rfl rfl (by kernel_rfl) Try.func6 (by kernel_rfl)
    (of_decide_eq_true (by kernel_rfl)) (by unfold Func.isWrapper; first | (rw [if_pos (by decide +kernel)]; kernel_rfl) | (rw [if_neg (by decide +kernel)]; exact ⟨rfl, rfl⟩))
    (fun os started H enc _ F0 => configExact_lifted os started H enc F0)

end Go.Proofs.Ytgdmcbjlfnjhjaa
