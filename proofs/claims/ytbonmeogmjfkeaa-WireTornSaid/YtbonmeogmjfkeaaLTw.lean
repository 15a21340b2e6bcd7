/-
  WireTorn: for every list of bodies, every place and every four masks the law answers true and leaves its arguments alone. No condition.
-/
import Derived.Test.YtbonmeogmjfkeaaTw
import Derived.Test.YtbonmeogmjfkeaaLift
import Derived.OpenShut
namespace Go.Proofs.Ytbonmeogmjfkeaa
open Go.ChangeShapes Go.WideShapes Go.ChangeAt Go.RowKit Wm Mm
set_option linter.unusedVariables false

theorem tw_list4 {l : List Value} (h : l.length = 4) : ∃ a b c d, l = [a, b, c, d] := by
  match l, h with
  | [a, b, c, d], _ => exact ⟨a, b, c, d, rfl⟩
theorem tw_cells : Try.prog.cellsOf 78 = 4 := by kernel_rfl
theorem tw_cells_int : Try.prog.cellsOf 3 = 1 := by kernel_rfl
theorem tw_bytes : Try.prog.bytesOf 9 = 16 := by kernel_rfl
theorem tw_cell {H : Type} {enc : TypeId × Value → H} {w : World} {base : Nat} {spare : Nat → Bool} {held : Bool} {n : Nat} {cs : List Value} {x : DataW H × List MemPlace} {c : Value} (h : DataW.trod enc Try.prog w base spare held n 3 cs = some x) (hc : cs = [c]) : ∃ a : Int, c = .int .i64 a := by
  obtain ⟨a, ha, _⟩ := DataW.trod_int Try.underlying3 h
  rw [ha] at hc; cases hc; exact ⟨a, rfl⟩

set_option maxRecDepth 100000 in
theorem open_masks {H : Type} {enc : TypeId × Value → H} {w : World} {base b0 : Nat} {spare : Nat → Bool} {held : Bool} {r : Reach} {v : Value} {d : DataW H} {p : List MemPlace} (hv : Value.okWide Try.prog w r b0 78 v) (h : DataW.Trod enc Try.prog w base spare held 78 v d p) :
    ∃ m0 m1 m2 m3 : Int, v = .agg #[.int .i64 m0, .int .i64 m1, .int .i64 m2, .int .i64 m3] := by
  obtain ⟨cs, rfl, hsz, _⟩ : ∃ cs, v = .agg cs ∧ cs.size = Try.prog.cellsOf 78 ∧ Row.okWide Try.prog w r b0 78 cs := by
    simpa [Value.okWide, Try.underlying78] using hv
  rw [tw_cells] at hsz
  obtain ⟨l⟩ := cs
  obtain ⟨c0, c1, c2, c3, rfl⟩ := tw_list4 hsz
  obtain ⟨fuel, hf⟩ := h
  obtain ⟨xs, m, _, _, _, hlen, hg⟩ := DataW.trod_array Try.underlying78 hf
  have hs : ∀ i, i < 4 → ∃ y, xs[i]? = some y := fun i hi => ⟨_, List.getElem?_eq_getElem (by omega)⟩
  obtain ⟨y0, h0⟩ := hs 0 (by decide)
  obtain ⟨y1, h1⟩ := hs 1 (by decide)
  obtain ⟨y2, h2⟩ := hs 2 (by decide)
  obtain ⟨y3, h3⟩ := hs 3 (by decide)
  have g0 := (hg 0 (by decide)).trans h0
  have g1 := (hg 1 (by decide)).trans h1
  have g2 := (hg 2 (by decide)).trans h2
  have g3 := (hg 3 (by decide)).trans h3
  rw [tw_cells_int] at g0 g1 g2 g3
  obtain ⟨m0, rfl⟩ := tw_cell (c := c0) g0 rfl
  obtain ⟨m1, rfl⟩ := tw_cell (c := c1) g1 rfl
  obtain ⟨m2, rfl⟩ := tw_cell (c := c2) g2 rfl
  obtain ⟨m3, rfl⟩ := tw_cell (c := c3) g3 rfl
  exact ⟨m0, m1, m2, m3, rfl⟩

set_option maxRecDepth 100000 in
theorem wireTorn_lifted (os : Os) (started : os.Started) (H : Type) (enc : TypeId × Value → H) :
    ReturnsInHanded {} Try.checked os 8 .any (Rows.wireTornSpec.pre6 enc Try.prog Try.f8 Rows.wireTornRow.domain false) (Rows.wireTornSpec.post enc Try.prog Try.f8 false true false false) := by
  refine returnsInHanded_of_change_sized (C := Try.checked) law_own started (by kernel_rfl) Try.func8
    (ChangeSpec.witness6 (enc := enc) (C := Try.checked) false ⟨#[], #[.slice none 0 0, .int .i64 0, .agg #[.int .i64 0, .int .i64 0, .int .i64 0, .int .i64 0]], []⟩ 8 (by kernel_rfl) (by kernel_rfl) (by kernel_rfl) (by kernel_rfl)) ?_
  intro W base args ds gs before hval0 hW _ hsz0 _
  have hsz : (DataW.weightsEach Try.prog (Try.f8.params.toList ++ Rows.wireTornSpec.plain.varTypes Try.prog) (ds ++ gs)).all (· ≤ reachBytes) = true := hsz0
  have hval : ∀ (j : Nat) t v, Try.f8.params[j]? = some t → args[j]? = some v → Value.okWide Try.prog W .any base t v := hval0
  have hW' : DataW.Whole enc Try.prog Try.f8.params.toList Rows.wireTornSpec.vars false W args.toList ds gs before := hW
  obtain ⟨p, q, hA0, hV, rfl, hfz, hnd⟩ := hW
  have hA : DataW.TrodAll enc Try.prog W 0 (fun _ => true) true Try.f8.params.toList args.toList ds p := hA0
  rw [Try.params8] at hA hval hsz
  obtain ⟨v0, vs0, d0, ds0, p0, q0, hargs, rfl, rfl, h0, r0⟩ := trodAll_cons hA
  obtain ⟨v1, vs1, d1, ds1, p1, q1, rfl, rfl, rfl, h1, r1⟩ := trodAll_cons r0
  obtain ⟨v2, vs2, d2, ds2, p2, q2, rfl, rfl, rfl, h2, r2⟩ := trodAll_cons r1
  obtain ⟨rfl, rfl, rfl⟩ := trodAll_nil r2
  obtain rfl : args = #[v0, v1, v2] := by cases args; simp_all
  obtain ⟨rfl, rfl⟩ := trodVars_none hV
  clear hA0 hval0 hsz0
  obtain ⟨L, hL, hlen⟩ := open_Strs Try.underlying62 Try.underlying9 (by kernel_rfl) (hval 0 62 v0 rfl rfl) h0
  obtain ⟨n, rfl, rfl, rfl, wn⟩ := open_int Try.underlying3 (hval 1 3 v1 rfl rfl) h1
  obtain ⟨m0, m1, m2, m3, rfl⟩ := open_masks (hval 2 78 v2 rfl rfl) h2
  have hn : L.length ≤ 8796093022208 := by
    rcases hlen with rfl | ⟨el, sp, rfl, he⟩
    · simp
    · have := sized_slice hsz (j := 0) (t := 62) rfl rfl Try.underlying62
      rw [tw_bytes] at this
      have hr : reachBytes = 140737488351232 := rfl
      omega
  refine (law_torn v0 L n m0 m1 m2 m3 W hL hn).mono fun e W' ⟨he, hb⟩ => ?_
  exact ⟨_, he, law_post (by kernel_rfl) (by kernel_rfl) rfl rfl rfl rfl hW' hb⟩

theorem wireTorn_holds : Rows.WireTornSaid :=
  OpenClaim.holds_of_wide 8 Try.f8 rfl rfl rfl rfl rfl rfl rfl ⟨rfl, rfl, rfl, rfl, rfl⟩ rfl rfl rfl rfl rfl (by kernel_rfl) Try.func8 (by kernel_rfl)
    (of_decide_eq_true (by kernel_rfl)) (by unfold Func.isWrapper; first | (rw [if_pos (by decide +kernel)]; kernel_rfl) | (rw [if_neg (by decide +kernel)]; exact ⟨rfl, rfl⟩))
    (fun os started H enc _ => wireTorn_lifted os started H enc)

end Go.Proofs.Ytbonmeogmjfkeaa
