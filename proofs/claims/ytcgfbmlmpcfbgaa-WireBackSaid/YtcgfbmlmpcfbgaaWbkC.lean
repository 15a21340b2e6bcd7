/-
  An array of six integers as an argument. WireBack: for every array of six numbers and every three texts the law answers true and leaves its arguments alone. No condition.
-/
import Derived.Test.YtcgfbmlmpcfbgaaLift
import Derived.OpenShut
import Derived.Test.YtcgfbmlmpcfbgaaWbe
namespace Go.Proofs.Ytcgfbmlmpcfbgaa
open Go.ChangeShapes Go.WideShapes Go.ChangeAt Go.RowKit Mm
set_option linter.unusedVariables false

theorem osx_list {l : List Value} (h : l.length = 6) : ∃ a b c d e f, l = [a, b, c, d, e, f] := by
  match l, h with
  | [a, b, c, d, e, f], _ => exact ⟨a, b, c, d, e, f, rfl⟩
theorem osx_cells : Try.prog.cellsOf 22 = 6 := by kernel_rfl
theorem osx_cells_int : Try.prog.cellsOf 3 = 1 := by kernel_rfl
theorem osx_cell {H : Type} {enc : TypeId × Value → H} {w : World} {base : Nat} {spare : Nat → Bool} {held : Bool} {n : Nat} {cs : List Value} {x : DataW H × List MemPlace} {c : Value} (h : DataW.trod enc Try.prog w base spare held n 3 cs = some x) (hc : cs = [c]) : ∃ a : Int, c = .int .i64 a := by
  obtain ⟨a, ha, _⟩ := DataW.trod_int Try.underlying3 h
  rw [ha] at hc; cases hc; exact ⟨a, rfl⟩
set_option maxRecDepth 100000 in
theorem open_six {H : Type} {enc : TypeId × Value → H} {w : World} {base b0 : Nat} {spare : Nat → Bool} {held : Bool} {r : Reach} {v : Value} {d : DataW H} {p : List MemPlace} (hv : Value.okWide Try.prog w r b0 22 v) (h : DataW.Trod enc Try.prog w base spare held 22 v d p) :
    ∃ m0 m1 m2 m3 m4 m5 : Int, v = .agg #[.int .i64 m0, .int .i64 m1, .int .i64 m2, .int .i64 m3, .int .i64 m4, .int .i64 m5] := by
  obtain ⟨cs, rfl, hsz, _⟩ : ∃ cs, v = .agg cs ∧ cs.size = Try.prog.cellsOf 22 ∧ Row.okWide Try.prog w r b0 22 cs := by
    simpa [Value.okWide, Try.underlying22] using hv
  rw [osx_cells] at hsz
  obtain ⟨l⟩ := cs
  obtain ⟨c0, c1, c2, c3, c4, c5, rfl⟩ := osx_list hsz
  obtain ⟨fuel, hf⟩ := h
  obtain ⟨xs, m, _, _, _, hlen, hg⟩ := DataW.trod_array Try.underlying22 hf
  have hs : ∀ i, i < 6 → ∃ y, xs[i]? = some y := fun i hi => ⟨_, List.getElem?_eq_getElem (by omega)⟩
  obtain ⟨y0, h0⟩ := hs 0 (by decide)
  obtain ⟨y1, h1⟩ := hs 1 (by decide)
  obtain ⟨y2, h2⟩ := hs 2 (by decide)
  obtain ⟨y3, h3⟩ := hs 3 (by decide)
  obtain ⟨y4, h4⟩ := hs 4 (by decide)
  obtain ⟨y5, h5⟩ := hs 5 (by decide)
  have g0 := (hg 0 (by decide)).trans h0
  have g1 := (hg 1 (by decide)).trans h1
  have g2 := (hg 2 (by decide)).trans h2
  have g3 := (hg 3 (by decide)).trans h3
  have g4 := (hg 4 (by decide)).trans h4
  have g5 := (hg 5 (by decide)).trans h5
  rw [osx_cells_int] at g0 g1 g2 g3 g4 g5
  obtain ⟨m0, rfl⟩ := osx_cell (c := c0) g0 rfl
  obtain ⟨m1, rfl⟩ := osx_cell (c := c1) g1 rfl
  obtain ⟨m2, rfl⟩ := osx_cell (c := c2) g2 rfl
  obtain ⟨m3, rfl⟩ := osx_cell (c := c3) g3 rfl
  obtain ⟨m4, rfl⟩ := osx_cell (c := c4) g4 rfl
  obtain ⟨m5, rfl⟩ := osx_cell (c := c5) g5 rfl
  exact ⟨m0, m1, m2, m3, m4, m5, rfl⟩
end Go.Proofs.Ytcgfbmlmpcfbgaa

namespace Go.Proofs.Ytcgfbmlmpcfbgaa
open Go.ChangeShapes Go.WideShapes Go.ChangeAt Go.RowKit Wm Mm
open Go.ChangeMaps (open_string)
set_option linter.unusedVariables false

set_option maxRecDepth 100000 in
theorem wireBack_lifted (os : Os) (started : os.Started) (H : Type) (enc : TypeId × Value → H) :
    ReturnsInHanded {} Try.checked os 3 .any (Rows.wireBackSpec.pre6 enc Try.prog Try.f3 Rows.wireBackRow.domain false) (Rows.wireBackSpec.post enc Try.prog Try.f3 false true false false) := by
  refine returnsInHanded_of_change_sized (C := Try.checked) law_own started (by kernel_rfl) Try.func3
    (ChangeSpec.witness6 (enc := enc) (C := Try.checked) false ⟨#[], #[.agg #[.int .i64 0, .int .i64 0, .int .i64 0, .int .i64 0, .int .i64 0, .int .i64 0], .string .empty, .string .empty, .string .empty], []⟩ 8 (by kernel_rfl) (by kernel_rfl) (by kernel_rfl) (by kernel_rfl)) ?_
  intro W base args ds gs before hval0 hW _ hsz0 _
  have hsz : (DataW.weightsEach Try.prog (Try.f3.params.toList ++ Rows.wireBackSpec.plain.varTypes Try.prog) (ds ++ gs)).all (· ≤ reachBytes) = true := hsz0
  have hval : ∀ (j : Nat) t v, Try.f3.params[j]? = some t → args[j]? = some v → Value.okWide Try.prog W .any base t v := hval0
  have hW' : DataW.Whole enc Try.prog Try.f3.params.toList Rows.wireBackSpec.vars false W args.toList ds gs before := hW
  obtain ⟨p, q, hA0, hV, rfl, hfz, hnd⟩ := hW
  have hA : DataW.TrodAll enc Try.prog W 0 (fun _ => true) true Try.f3.params.toList args.toList ds p := hA0
  rw [Try.params3] at hA hval hsz
  obtain ⟨v0, vs0, d0, ds0, p0, q0, hargs, rfl, rfl, h0, r0⟩ := trodAll_cons hA
  obtain ⟨v1, vs1, d1, ds1, p1, q1, rfl, rfl, rfl, h1, r1⟩ := trodAll_cons r0
  obtain ⟨v2, vs2, d2, ds2, p2, q2, rfl, rfl, rfl, h2, r2⟩ := trodAll_cons r1
  obtain ⟨v3, vs3, d3, ds3, p3, q3, rfl, rfl, rfl, h3, r3⟩ := trodAll_cons r2
  obtain ⟨rfl, rfl, rfl⟩ := trodAll_nil r3
  obtain rfl : args = #[v0, v1, v2, v3] := by cases args; simp_all
  obtain ⟨rfl, rfl⟩ := trodVars_none hV
  clear hA0 hval0 hsz0
  obtain ⟨m0, m1, m2, m3, m4, m5, rfl⟩ := open_six (hval 0 22 v0 rfl rfl) h0
  obtain ⟨s1, rfl, rfl, rfl, hs1⟩ := open_string Try.underlying9 (hval 1 9 v1 rfl rfl) h1
  have hl1 : s1.data.toList.length ≤ reachBytes := sized_string hsz (j := 1) (t := 9) rfl rfl
  obtain ⟨s2, rfl, rfl, rfl, hs2⟩ := open_string Try.underlying9 (hval 2 9 v2 rfl rfl) h2
  have hl2 : s2.data.toList.length ≤ reachBytes := sized_string hsz (j := 2) (t := 9) rfl rfl
  obtain ⟨s3, rfl, rfl, rfl, hs3⟩ := open_string Try.underlying9 (hval 3 9 v3 rfl rfl) h3
  have hl3 : s3.data.toList.length ≤ reachBytes := sized_string hsz (j := 3) (t := 9) rfl rfl
  have hr : reachBytes = 140737488351232 := rfl
  refine (law_back m0 m1 m2 m3 m4 m5 s1.data.toList s2.data.toList s3.data.toList W (by omega) (by omega) (by omega)).mono fun e W' ⟨he, hb⟩ => ?_
  exact ⟨_, he, law_post (by kernel_rfl) (by kernel_rfl) rfl rfl rfl rfl hW' hb⟩

theorem wireBack_holds : Rows.WireBackSaid :=
  OpenClaim.holds_of_wide 3 Try.f3 rfl rfl rfl rfl rfl rfl rfl ⟨rfl, rfl, rfl, rfl, rfl⟩ rfl rfl rfl rfl rfl (by kernel_rfl) Try.func3 (by kernel_rfl)
    (of_decide_eq_true (by kernel_rfl)) (by unfold Func.isWrapper; first | (rw [if_pos (by decide +kernel)]; kernel_rfl) | (rw [if_neg (by decide +kernel)]; exact ⟨rfl, rfl⟩))
    (fun os started H enc _ => wireBack_lifted os started H enc)

end Go.Proofs.Ytcgfbmlmpcfbgaa
