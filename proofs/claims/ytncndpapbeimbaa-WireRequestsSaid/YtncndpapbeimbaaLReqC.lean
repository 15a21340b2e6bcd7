/-
  WireRequests: the row.
-/
import Derived.Test.YtncndpapbeimbaaLReq
namespace Go.Proofs.Ytncndpapbeimbaa
open Go.ChangeShapes Go.WideShapes Go.ChangeAt Go.RowKit Wm Mm
open Go.ChangeMaps (open_string)
set_option linter.unusedVariables false

theorem str_of (s : ByteArray) : Value.string s = str s.data.toList := by
  cases s with | mk d => rfl
section
variable {H : Type} {enc : TypeId × Value → H} {w : World} {base : Nat} {spare : Nat → Bool} {held : Bool}
theorem cell_int {n : Nat} {cs : List Value} {x : DataW H × List MemPlace} {c : Value} (h : DataW.trod enc Try.prog w base spare held n 3 cs = some x) (hc : cs = [c]) : ∃ a : Int, c = .int .i64 a := by
  obtain ⟨a, ha, _⟩ := DataW.trod_int Try.underlying3 h
  rw [ha] at hc; cases hc; exact ⟨a, rfl⟩
theorem cell_str {n : Nat} {cs : List Value} {x : DataW H × List MemPlace} {c : Value} (h : DataW.trod enc Try.prog w base spare held n 9 cs = some x) (hc : cs = [c]) : ∃ a : List UInt8, c = str a := by
  obtain ⟨a, ha, _⟩ := DataW.trod_string Try.underlying9 h
  rw [ha] at hc; cases hc; exact ⟨a.data.toList, str_of a⟩
theorem cells_int : Try.prog.cellsOf 3 = 1 := by kernel_rfl
theorem cells_str : Try.prog.cellsOf 9 = 1 := by kernel_rfl
theorem cells_cmd : Try.prog.cellsOf 23 = 4 := by kernel_rfl
theorem cells_req : Try.prog.cellsOf 25 = 7 := by kernel_rfl

theorem some_of {α : Type} {l : List α} {i : Nat} (h : i < l.length) : ∃ x, l[i]? = some x := ⟨_, List.getElem?_eq_getElem h⟩

set_option maxRecDepth 100000 in
theorem open_cmd {n : Nat} {c0 c1 c2 c3 : Value} {x : DataW H × List MemPlace} (h : DataW.trod enc Try.prog w base spare held n 23 [c0, c1, c2, c3] = some x) :
    ∃ (kind : Int) (key val : List UInt8) (iff : Int), c0 = .int .i64 kind ∧ c1 = str key ∧ c2 = str val ∧ c3 = .int .i64 iff := by
  obtain ⟨xs, m, _, _, _, hlen, hg⟩ := DataW.trod_struct Try.underlying23 h
  obtain ⟨y0, hy0⟩ := some_of (l := xs) (i := 0) (by rw [hlen]; decide)
  obtain ⟨y1, hy1⟩ := some_of (l := xs) (i := 1) (by rw [hlen]; decide)
  obtain ⟨y2, hy2⟩ := some_of (l := xs) (i := 2) (by rw [hlen]; decide)
  obtain ⟨y3, hy3⟩ := some_of (l := xs) (i := 3) (by rw [hlen]; decide)
  have h0 : DataW.trod enc Try.prog w base spare held m 3 (([c0, c1, c2, c3].drop 0).take (Try.prog.cellsOf 3)) = some y0 := (hg 0 _ rfl).trans hy0
  rw [cells_int] at h0
  obtain ⟨a, rfl⟩ := cell_int h0 rfl
  have h1 : DataW.trod enc Try.prog w base spare held m 9 (([.int .i64 a, c1, c2, c3].drop 1).take (Try.prog.cellsOf 9)) = some y1 := (hg 1 _ rfl).trans hy1
  rw [cells_str] at h1
  obtain ⟨b, rfl⟩ := cell_str h1 rfl
  have h2 : DataW.trod enc Try.prog w base spare held m 9 (([.int .i64 a, str b, c2, c3].drop 2).take (Try.prog.cellsOf 9)) = some y2 := (hg 2 _ rfl).trans hy2
  rw [cells_str] at h2
  obtain ⟨c, rfl⟩ := cell_str h2 rfl
  have h3 : DataW.trod enc Try.prog w base spare held m 3 (([.int .i64 a, str b, str c, c3].drop 3).take (Try.prog.cellsOf 3)) = some y3 := (hg 3 _ rfl).trans hy3
  rw [cells_int] at h3
  obtain ⟨d, rfl⟩ := cell_int h3 rfl
  exact ⟨a, b, c, d, rfl, rfl, rfl, rfl⟩

set_option maxRecDepth 100000 in
theorem open_req {r : Reach} {b0 : Nat} {v : Value} {d : DataW H} {p : List MemPlace} (hv : Value.okWide Try.prog w r b0 25 v) (h : DataW.Trod enc Try.prog w base spare held 25 v d p) :
    ∃ (client number kind : Int) (key val : List UInt8) (iff time : Int), v = vReq client number kind key val iff time := by
  obtain ⟨cs, rfl, hsz⟩ := okWide_struct Try.underlying25 hv
  obtain ⟨l⟩ := cs
  match l, hsz.trans cells_req with
  | [c0, c1, c2, c3, c4, c5, c6], _ =>
    obtain ⟨fuel, hf⟩ := h
    obtain ⟨xs, m, _, _, _, hlen, hg⟩ := DataW.trod_struct Try.underlying25 hf
    obtain ⟨y0, hy0⟩ := some_of (l := xs) (i := 0) (by rw [hlen]; decide)
    obtain ⟨y1, hy1⟩ := some_of (l := xs) (i := 1) (by rw [hlen]; decide)
    obtain ⟨y2, hy2⟩ := some_of (l := xs) (i := 2) (by rw [hlen]; decide)
    obtain ⟨y3, hy3⟩ := some_of (l := xs) (i := 3) (by rw [hlen]; decide)
    have h0 : DataW.trod enc Try.prog w base spare held m 3 (([c0, c1, c2, c3, c4, c5, c6].drop 0).take (Try.prog.cellsOf 3)) = some y0 := (hg 0 _ rfl).trans hy0
    rw [cells_int] at h0
    obtain ⟨a, rfl⟩ := cell_int h0 rfl
    have h1 : DataW.trod enc Try.prog w base spare held m 3 (([.int .i64 a, c1, c2, c3, c4, c5, c6].drop 1).take (Try.prog.cellsOf 3)) = some y1 := (hg 1 _ rfl).trans hy1
    rw [cells_int] at h1
    obtain ⟨b, rfl⟩ := cell_int h1 rfl
    have h2 : DataW.trod enc Try.prog w base spare held m 23 (([.int .i64 a, .int .i64 b, c2, c3, c4, c5, c6].drop 2).take (Try.prog.cellsOf 23)) = some y2 := (hg 2 _ rfl).trans hy2
    rw [cells_cmd] at h2
    obtain ⟨k, key, val, i, rfl, rfl, rfl, rfl⟩ := open_cmd h2
    have h3 : DataW.trod enc Try.prog w base spare held m 3 (([.int .i64 a, .int .i64 b, .int .i64 k, str key, str val, .int .i64 i, c6].drop 6).take (Try.prog.cellsOf 3)) = some y3 := (hg 3 _ rfl).trans hy3
    rw [cells_int] at h3
    obtain ⟨t, rfl⟩ := cell_int h3 rfl
    exact ⟨a, b, k, key, val, i, t, rfl⟩
end

set_option maxRecDepth 100000 in
theorem wireRequests_lifted (os : Os) (started : os.Started) (H : Type) (enc : TypeId × Value → H) :
    ReturnsInHanded {} Try.checked os 3 .any (Rows.wireRequestsSpec.pre6 enc Try.prog Try.f3 Rows.wireRequestsRow.domain false) (Rows.wireRequestsSpec.post enc Try.prog Try.f3 false true false false) := by
  refine returnsInHanded_of_change_sized (C := Try.checked) law_own started (by kernel_rfl) Try.func3
    (ChangeSpec.witness6 (enc := enc) (C := Try.checked) false ⟨#[], #[.agg #[.int .i64 0, .int .i64 0, .int .i64 0, .string .empty, .string .empty, .int .i64 0, .int .i64 0], .string .empty], []⟩ 8 (by kernel_rfl) (by kernel_rfl) (by kernel_rfl) (by kernel_rfl)) ?_
  intro W base args ds gs before hval0 hW _ hsz0 _
  have hsz : (DataW.weightsEach Try.prog (Try.f3.params.toList ++ Rows.wireRequestsSpec.plain.varTypes Try.prog) (ds ++ gs)).all (· ≤ reachBytes) = true := hsz0
  have hval : ∀ (j : Nat) t v, Try.f3.params[j]? = some t → args[j]? = some v → Value.okWide Try.prog W .any base t v := hval0
  have hW' : DataW.Whole enc Try.prog Try.f3.params.toList Rows.wireRequestsSpec.vars false W args.toList ds gs before := hW
  obtain ⟨p, q, hA0, hV, rfl, hfz, hnd⟩ := hW
  have hA : DataW.TrodAll enc Try.prog W 0 (fun _ => true) true Try.f3.params.toList args.toList ds p := hA0
  rw [Try.params3] at hA hval hsz
  obtain ⟨v0, vs0, d0, ds0, p0, q0, hargs, rfl, rfl, h0, r0⟩ := trodAll_cons hA
  obtain ⟨v1, vs1, d1, ds1, p1, q1, rfl, rfl, rfl, h1, r1⟩ := trodAll_cons r0
  obtain ⟨rfl, rfl, rfl⟩ := trodAll_nil r1
  obtain rfl : args = #[v0, v1] := by cases args; simp_all
  obtain ⟨rfl, rfl⟩ := trodVars_none hV
  clear hA0 hval0 hsz0
  obtain ⟨client, number, kind, key, val, iff, time, rfl⟩ := open_req (hval 0 25 v0 rfl rfl) h0
  obtain ⟨s1, rfl, rfl, rfl, hs1⟩ := open_string Try.underlying9 (hval 1 9 v1 rfl rfl) h1
  have hl1 : s1.data.toList.length ≤ reachBytes := sized_string hsz (j := 1) (t := 9) rfl rfl
  have hr : reachBytes = 140737488351232 := rfl
  refine (law_requests client number kind key val iff time s1.data.toList W (by omega)).mono fun e W' ⟨he, hb⟩ => ?_
  exact ⟨_, he, law_post (by kernel_rfl) (by kernel_rfl) rfl rfl rfl rfl hW' hb⟩

theorem wireRequests_holds : Rows.WireRequestsSaid :=
  OpenClaim.holds_of_wide 3 Try.f3 rfl rfl rfl rfl rfl rfl rfl ⟨rfl, rfl, rfl, rfl, rfl⟩ rfl rfl rfl rfl rfl (by kernel_rfl) Try.func3 (by kernel_rfl)
    (of_decide_eq_true (by kernel_rfl)) (by unfold Func.isWrapper; first | (rw [if_pos (by decide +kernel)]; kernel_rfl) | (rw [if_neg (by decide +kernel)]; exact ⟨rfl, rfl⟩))
    (fun os started H enc _ => wireRequests_lifted os started H enc)

end Go.Proofs.Ytncndpapbeimbaa
