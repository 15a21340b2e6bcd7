/-
  WireMessages: for every message and every text the law, that messages are written and read as the document says, answers true and leaves its arguments alone. No condition.
-/
import Derived.Test.YtkcllpbbjlbfaaaOg
import Derived.Test.YtkcllpbbjlbfaaaLift
import Derived.Test.YtkcllpbbjlbfaaaMla
import Derived.Test.YtkcllpbbjlbfaaaRows
namespace Go.Proofs.Ytkcllpbbjlbfaaa
open Go.ChangeShapes Go.WideShapes Go.ChangeAt Go.RowKit Wm Mm Lg Opn
open Go.ChangeMaps (open_string)
set_option linter.unusedVariables false

theorem cells_intT : Try.prog.cellsOf 3 = 1 := by kernel_rfl
theorem cells_intsT : Try.prog.cellsOf 23 = 1 := by kernel_rfl
theorem cells_confT : Try.prog.cellsOf 25 = 3 := by kernel_rfl
theorem cells_boolT : Try.prog.cellsOf 4 = 1 := by kernel_rfl
theorem cells_int : Try.prog.cellsOf 3 = 1 := by kernel_rfl
theorem cells_str : Try.prog.cellsOf 9 = 1 := by kernel_rfl
theorem cells_entry : Try.prog.cellsOf 40 = 4 := by kernel_rfl
theorem cells_entries : Try.prog.cellsOf 22 = 1 := by kernel_rfl
theorem bytes_entry : Try.prog.bytesOf 40 = 40 := by kernel_rfl
theorem cells_snapT : Try.prog.cellsOf 27 = 6 := by kernel_rfl
theorem cells_msgT : Try.prog.cellsOf 29 = 17 := by kernel_rfl
theorem plain_ints {w : World} {v : Value} {l : List Int} (h : Sl 1 (Plain fun i : Int => [.int .i64 i]) (fun _ => True) w v l) (hn : l.length ≤ maxLen) : Ints w v l := by
  obtain ⟨ao, cap, rfl, hcap, hmax, hx⟩ := h
  refine ⟨ao, cap, rfl, fun hne => ?_, hn⟩
  obtain ⟨b, off, rfl, _, _, hj⟩ := hx hne
  refine ⟨b, off, rfl, fun j x hjx => ?_⟩
  obtain ⟨us, _, hus, hcs⟩ := hj j x hjx
  have hus : us = [.int .i64 x] := hus
  subst hus
  have := hcs 0 _ rfl
  rw [Nat.mul_one, Nat.add_zero] at this
  exact this
theorem opens_intsT : Opens Try.prog 23 (fun w cs (l : List Int) => ∃ v, cs = [v] ∧ Ints w v l) (fun _ => True) := by
  have h := opens_sl (fun i : Int => [Value.int .i64 i]) Try.underlying23 cells_intT (by decide) (opens_int (P := Try.prog) Try.underlying3)
  intro H enc w base spare held n cs x hx
  obtain ⟨y, ⟨v, h1, h2⟩, _⟩ := h enc w base spare held n cs x hx
  refine ⟨y, ⟨v, h1, plain_ints h2 ?_⟩, fun _ => trivial⟩
  obtain ⟨_, _, _, _, hm, _⟩ := h2
  exact hm
set_option maxRecDepth 100000 in
theorem opens_confT : Opens Try.prog 25 (fun w cs (c : Conf) => ∃ a b d, cs = [a, b, d] ∧ Config3 w a b d c) (fun _ => True) := by
  intro H enc w base spare held n cs x hx
  obtain ⟨hl, hg⟩ := struct_at Try.underlying25 hx
  rw [cells_confT] at hl
  match cs, hl with
  | [c0, c1, c2], _ =>
    obtain ⟨m0, y0, h0, _⟩ := hg 0 _ rfl
    obtain ⟨m1, y1, h1, _⟩ := hg 1 _ rfl
    obtain ⟨m2, y2, h2, _⟩ := hg 2 _ rfl
    have h0 : DataW.trod enc Try.prog w base spare held m0 23 (([c0, c1, c2].drop 0).take (Try.prog.cellsOf 23)) = some y0 := h0
    have h1 : DataW.trod enc Try.prog w base spare held m1 23 (([c0, c1, c2].drop 1).take (Try.prog.cellsOf 23)) = some y1 := h1
    have h2 : DataW.trod enc Try.prog w base spare held m2 23 (([c0, c1, c2].drop 2).take (Try.prog.cellsOf 23)) = some y2 := h2
    rw [cells_intsT] at h0 h1 h2
    obtain ⟨a0, ⟨v0, e0, i0⟩, _⟩ := opens_intsT enc w base spare held m0 _ y0 h0
    obtain rfl : c0 = v0 := by simpa using e0
    obtain ⟨a1, ⟨v1, e1, i1⟩, _⟩ := opens_intsT enc w base spare held m1 _ y1 h1
    obtain rfl : c1 = v1 := by simpa using e1
    obtain ⟨a2, ⟨v2, e2, i2⟩, _⟩ := opens_intsT enc w base spare held m2 _ y2 h2
    obtain rfl : c2 = v2 := by simpa using e2
    exact ⟨⟨a0, a1, a2⟩, ⟨c0, c1, c2, rfl, i0, i1, i2⟩, fun _ => trivial⟩

set_option maxRecDepth 100000 in
theorem opens_entry : Opens Try.prog 40 (fun _ cs (e : EntP) => cs = rowE e) (fun _ => True) := by
  intro H enc w base spare held n cs x hx
  obtain ⟨hl, hg⟩ := struct_at Try.underlying40 hx
  rw [cells_entry] at hl
  match cs, hl with
  | [c0, c1, c2, c3], _ =>
    obtain ⟨m0, y0, h0, _⟩ := hg 0 _ rfl
    obtain ⟨m1, y1, h1, _⟩ := hg 1 _ rfl
    obtain ⟨m2, y2, h2, _⟩ := hg 2 _ rfl
    obtain ⟨m3, y3, h3, _⟩ := hg 3 _ rfl
    have h0 : DataW.trod enc Try.prog w base spare held m0 3 (([c0, c1, c2, c3].drop 0).take (Try.prog.cellsOf 3)) = some y0 := h0
    have h1 : DataW.trod enc Try.prog w base spare held m1 3 (([c0, c1, c2, c3].drop 1).take (Try.prog.cellsOf 3)) = some y1 := h1
    have h2 : DataW.trod enc Try.prog w base spare held m2 3 (([c0, c1, c2, c3].drop 2).take (Try.prog.cellsOf 3)) = some y2 := h2
    have h3 : DataW.trod enc Try.prog w base spare held m3 9 (([c0, c1, c2, c3].drop 3).take (Try.prog.cellsOf 9)) = some y3 := h3
    rw [cells_int] at h0 h1 h2
    rw [cells_str] at h3
    obtain ⟨a, ha, _⟩ := opens_int Try.underlying3 enc w base spare held m0 _ y0 h0
    obtain ⟨b, hb, _⟩ := opens_int Try.underlying3 enc w base spare held m1 _ y1 h1
    obtain ⟨c, hc, _⟩ := opens_int Try.underlying3 enc w base spare held m2 _ y2 h2
    obtain ⟨d, hd, _⟩ := opens_str Try.underlying9 enc w base spare held m3 _ y3 h3
    obtain rfl : c0 = .int .i64 a := by simpa using ha
    obtain rfl : c1 = .int .i64 b := by simpa using hb
    obtain rfl : c2 = .int .i64 c := by simpa using hc
    obtain rfl : c3 = str d := by simpa using hd
    exact ⟨⟨a, b, c, d⟩, rfl, fun _ => trivial⟩
theorem opens_entries : Opens Try.prog 22 (fun w cs (l : List EntP) => ∃ v, cs = [v] ∧ Ents (fun _ => True) w v l) (fun l => l.length ≤ 3518437208780) :=
  (opens_sl rowE Try.underlying22 cells_entry (by decide) opens_entry).imp (fun w cs y h => h) (fun y h => by
    have h1 := h.1
    rw [bytes_entry] at h1
    have hr : reachBytes = 140737488351232 := rfl
    omega)
set_option maxRecDepth 100000 in
theorem opens_snapT : Opens Try.prog 27 (fun w cs (q : Int × Int × Conf × List UInt8) => ∃ x y z, cs = [.int .i64 q.1, .int .i64 q.2.1, x, y, z, str q.2.2.2] ∧ Config3 w x y z q.2.2.1) (fun _ => True) := by
  intro H enc w base spare held n cs x hx
  obtain ⟨hl, hg⟩ := struct_at Try.underlying27 hx
  rw [cells_snapT] at hl
  match cs, hl with
  | [c0, c1, c2, c3, c4, c5], _ =>
    obtain ⟨m0, y0, h0, w0⟩ := hg 0 _ rfl
    obtain ⟨m1, y1, h1, w1⟩ := hg 1 _ rfl
    obtain ⟨m2, y2, h2, w2⟩ := hg 2 _ rfl
    obtain ⟨m3, y3, h3, w3⟩ := hg 3 _ rfl
    have h0 : DataW.trod enc Try.prog w base spare held m0 3 (([c0, c1, c2, c3, c4, c5].drop 0).take (Try.prog.cellsOf 3)) = some y0 := h0
    have h1 : DataW.trod enc Try.prog w base spare held m1 3 (([c0, c1, c2, c3, c4, c5].drop 1).take (Try.prog.cellsOf 3)) = some y1 := h1
    have h2 : DataW.trod enc Try.prog w base spare held m2 25 (([c0, c1, c2, c3, c4, c5].drop 2).take (Try.prog.cellsOf 25)) = some y2 := h2
    have h3 : DataW.trod enc Try.prog w base spare held m3 9 (([c0, c1, c2, c3, c4, c5].drop 5).take (Try.prog.cellsOf 9)) = some y3 := h3
    rw [cells_int] at h0
    rw [cells_int] at h1
    rw [cells_confT] at h2
    rw [cells_str] at h3
    obtain ⟨a0, b0, _⟩ := opens_int Try.underlying3 enc w base spare held m0 _ y0 h0
    obtain rfl : c0 = .int .i64 a0 := by simpa using b0
    obtain ⟨a1, b1, _⟩ := opens_int Try.underlying3 enc w base spare held m1 _ y1 h1
    obtain rfl : c1 = .int .i64 a1 := by simpa using b1
    obtain ⟨g2, ⟨va, vb, vd, hv2, hc2⟩, _⟩ := opens_confT enc w base spare held m2 _ y2 h2
    have hv2 : [c2, c3, c4] = [va, vb, vd] := hv2
    simp only [List.cons.injEq, and_true] at hv2
    obtain ⟨rfl, rfl, rfl⟩ := hv2
    obtain ⟨a3, b3, _⟩ := opens_str Try.underlying9 enc w base spare held m3 _ y3 h3
    obtain rfl : c5 = str a3 := by simpa using b3
    exact ⟨⟨a0, a1, g2, a3⟩, ⟨_, _, _, rfl, hc2⟩, fun _ => trivial⟩
set_option maxRecDepth 100000 in
theorem opens_msgT : Opens Try.prog 29 (fun w cs (m : Msg) => ∃ ev x y z, cs = rowMsg m ev x y z ∧ Ents (fun _ => True) w ev m.ents ∧ Config3 w x y z m.sc) (fun m => m.ents.length ≤ 3518437208780) := by
  intro H enc w base spare held n cs x hx
  obtain ⟨hl, hg⟩ := struct_at Try.underlying29 hx
  rw [cells_msgT] at hl
  match cs, hl with
  | [c0, c1, c2, c3, c4, c5, c6, c7, c8, c9, c10, c11, c12, c13, c14, c15, c16], _ =>
    obtain ⟨m0, y0, h0, w0⟩ := hg 0 _ rfl
    obtain ⟨m1, y1, h1, w1⟩ := hg 1 _ rfl
    obtain ⟨m2, y2, h2, w2⟩ := hg 2 _ rfl
    obtain ⟨m3, y3, h3, w3⟩ := hg 3 _ rfl
    obtain ⟨m4, y4, h4, w4⟩ := hg 4 _ rfl
    obtain ⟨m5, y5, h5, w5⟩ := hg 5 _ rfl
    obtain ⟨m6, y6, h6, w6⟩ := hg 6 _ rfl
    obtain ⟨m7, y7, h7, w7⟩ := hg 7 _ rfl
    obtain ⟨m8, y8, h8, w8⟩ := hg 8 _ rfl
    obtain ⟨m9, y9, h9, w9⟩ := hg 9 _ rfl
    obtain ⟨m10, y10, h10, w10⟩ := hg 10 _ rfl
    obtain ⟨m11, y11, h11, w11⟩ := hg 11 _ rfl
    have h0 : DataW.trod enc Try.prog w base spare held m0 3 (([c0, c1, c2, c3, c4, c5, c6, c7, c8, c9, c10, c11, c12, c13, c14, c15, c16].drop 0).take (Try.prog.cellsOf 3)) = some y0 := h0
    have h1 : DataW.trod enc Try.prog w base spare held m1 3 (([c0, c1, c2, c3, c4, c5, c6, c7, c8, c9, c10, c11, c12, c13, c14, c15, c16].drop 1).take (Try.prog.cellsOf 3)) = some y1 := h1
    have h2 : DataW.trod enc Try.prog w base spare held m2 3 (([c0, c1, c2, c3, c4, c5, c6, c7, c8, c9, c10, c11, c12, c13, c14, c15, c16].drop 2).take (Try.prog.cellsOf 3)) = some y2 := h2
    have h3 : DataW.trod enc Try.prog w base spare held m3 3 (([c0, c1, c2, c3, c4, c5, c6, c7, c8, c9, c10, c11, c12, c13, c14, c15, c16].drop 3).take (Try.prog.cellsOf 3)) = some y3 := h3
    have h4 : DataW.trod enc Try.prog w base spare held m4 3 (([c0, c1, c2, c3, c4, c5, c6, c7, c8, c9, c10, c11, c12, c13, c14, c15, c16].drop 4).take (Try.prog.cellsOf 3)) = some y4 := h4
    have h5 : DataW.trod enc Try.prog w base spare held m5 3 (([c0, c1, c2, c3, c4, c5, c6, c7, c8, c9, c10, c11, c12, c13, c14, c15, c16].drop 5).take (Try.prog.cellsOf 3)) = some y5 := h5
    have h6 : DataW.trod enc Try.prog w base spare held m6 3 (([c0, c1, c2, c3, c4, c5, c6, c7, c8, c9, c10, c11, c12, c13, c14, c15, c16].drop 6).take (Try.prog.cellsOf 3)) = some y6 := h6
    have h7 : DataW.trod enc Try.prog w base spare held m7 22 (([c0, c1, c2, c3, c4, c5, c6, c7, c8, c9, c10, c11, c12, c13, c14, c15, c16].drop 7).take (Try.prog.cellsOf 22)) = some y7 := h7
    have h8 : DataW.trod enc Try.prog w base spare held m8 27 (([c0, c1, c2, c3, c4, c5, c6, c7, c8, c9, c10, c11, c12, c13, c14, c15, c16].drop 8).take (Try.prog.cellsOf 27)) = some y8 := h8
    have h9 : DataW.trod enc Try.prog w base spare held m9 4 (([c0, c1, c2, c3, c4, c5, c6, c7, c8, c9, c10, c11, c12, c13, c14, c15, c16].drop 14).take (Try.prog.cellsOf 4)) = some y9 := h9
    have h10 : DataW.trod enc Try.prog w base spare held m10 3 (([c0, c1, c2, c3, c4, c5, c6, c7, c8, c9, c10, c11, c12, c13, c14, c15, c16].drop 15).take (Try.prog.cellsOf 3)) = some y10 := h10
    have h11 : DataW.trod enc Try.prog w base spare held m11 3 (([c0, c1, c2, c3, c4, c5, c6, c7, c8, c9, c10, c11, c12, c13, c14, c15, c16].drop 16).take (Try.prog.cellsOf 3)) = some y11 := h11
    rw [cells_int] at h0
    rw [cells_int] at h1
    rw [cells_int] at h2
    rw [cells_int] at h3
    rw [cells_int] at h4
    rw [cells_int] at h5
    rw [cells_int] at h6
    rw [cells_entries] at h7
    rw [cells_snapT] at h8
    rw [cells_boolT] at h9
    rw [cells_int] at h10
    rw [cells_int] at h11
    obtain ⟨a0, b0, _⟩ := opens_int Try.underlying3 enc w base spare held m0 _ y0 h0
    obtain rfl : c0 = .int .i64 a0 := by simpa using b0
    obtain ⟨a1, b1, _⟩ := opens_int Try.underlying3 enc w base spare held m1 _ y1 h1
    obtain rfl : c1 = .int .i64 a1 := by simpa using b1
    obtain ⟨a2, b2, _⟩ := opens_int Try.underlying3 enc w base spare held m2 _ y2 h2
    obtain rfl : c2 = .int .i64 a2 := by simpa using b2
    obtain ⟨a3, b3, _⟩ := opens_int Try.underlying3 enc w base spare held m3 _ y3 h3
    obtain rfl : c3 = .int .i64 a3 := by simpa using b3
    obtain ⟨a4, b4, _⟩ := opens_int Try.underlying3 enc w base spare held m4 _ y4 h4
    obtain rfl : c4 = .int .i64 a4 := by simpa using b4
    obtain ⟨a5, b5, _⟩ := opens_int Try.underlying3 enc w base spare held m5 _ y5 h5
    obtain rfl : c5 = .int .i64 a5 := by simpa using b5
    obtain ⟨a6, b6, _⟩ := opens_int Try.underlying3 enc w base spare held m6 _ y6 h6
    obtain rfl : c6 = .int .i64 a6 := by simpa using b6
    obtain ⟨es, ⟨ev, he7, hs7⟩, hf7⟩ := opens_entries enc w base spare held m7 _ y7 h7
    obtain rfl : c7 = ev := by simpa using he7
    obtain ⟨q, ⟨sx, sy, sz, hv8, hc8⟩, _⟩ := opens_snapT enc w base spare held m8 _ y8 h8
    have hv8 : [c8, c9, c10, c11, c12, c13] = [.int .i64 q.1, .int .i64 q.2.1, sx, sy, sz, str q.2.2.2] := hv8
    simp only [List.cons.injEq, and_true] at hv8
    obtain ⟨rfl, rfl, rfl, rfl, rfl, rfl⟩ := hv8
    obtain ⟨a9, b9, _⟩ := opens_bool Try.underlying4 enc w base spare held m9 _ y9 h9
    obtain rfl : c14 = .bool a9 := by simpa using b9
    obtain ⟨a10, b10, _⟩ := opens_int Try.underlying3 enc w base spare held m10 _ y10 h10
    obtain rfl : c15 = .int .i64 a10 := by simpa using b10
    obtain ⟨a11, b11, _⟩ := opens_int Try.underlying3 enc w base spare held m11 _ y11 h11
    obtain rfl : c16 = .int .i64 a11 := by simpa using b11
    exact ⟨⟨a0, a1, a2, a3, a4, a5, a6, es, q.1, q.2.1, q.2.2.1, q.2.2.2, a9, a10, a11⟩, ⟨_, _, _, _, rfl, hs7, hc8⟩, fun hw => hf7 (w7 hw)⟩

set_option maxRecDepth 100000 in
theorem wireMessages_lifted (os : Os) (started : os.Started) (H : Type) (enc : TypeId × Value → H) :
    ReturnsInHanded {} Try.checked os 3 .any (Rows.wireMessagesSpec.pre6 enc Try.prog Try.f3 Rows.wireMessagesRow.domain false) (Rows.wireMessagesSpec.post enc Try.prog Try.f3 false true false false) := by
  refine returnsInHanded_of_change_sized (C := Try.checked) law_own started (by kernel_rfl) Try.func3
    (ChangeSpec.witness6 (enc := enc) (C := Try.checked) false ⟨#[], #[.agg #[.int .i64 0, .int .i64 0, .int .i64 0, .int .i64 0, .int .i64 0, .int .i64 0, .int .i64 0, .slice none 0 0, .int .i64 0, .int .i64 0, .slice none 0 0, .slice none 0 0, .slice none 0 0, .string .empty, .bool false, .int .i64 0, .int .i64 0], .string .empty], []⟩ 8 (by kernel_rfl) (by kernel_rfl) (by kernel_rfl) (by kernel_rfl)) ?_
  intro W base args ds gs before hval0 hW _ hsz0 _
  have hsz : (DataW.weightsEach Try.prog (Try.f3.params.toList ++ Rows.wireMessagesSpec.plain.varTypes Try.prog) (ds ++ gs)).all (· ≤ reachBytes) = true := hsz0
  have hval : ∀ (j : Nat) t v, Try.f3.params[j]? = some t → args[j]? = some v → Value.okWide Try.prog W .any base t v := hval0
  have hW' : DataW.Whole enc Try.prog Try.f3.params.toList Rows.wireMessagesSpec.vars false W args.toList ds gs before := hW
  obtain ⟨p, q, hA0, hV, rfl, hfz, hnd⟩ := hW
  have hA : DataW.TrodAll enc Try.prog W 0 (fun _ => true) true Try.f3.params.toList args.toList ds p := hA0
  rw [Try.params3] at hA hval hsz
  obtain ⟨v0, vs0, d0, ds0, p0, q0, hargs, rfl, rfl, h0, r0⟩ := trodAll_cons hA
  obtain ⟨v1, vs1, d1, ds1, p1, q1, rfl, rfl, rfl, h1, r1⟩ := trodAll_cons r0
  obtain ⟨rfl, rfl, rfl⟩ := trodAll_nil r1
  obtain rfl : args = #[v0, v1] := by cases args; simp_all
  obtain ⟨rfl, rfl⟩ := trodVars_none hV
  clear hA0 hval0 hsz0
  obtain ⟨m, ⟨ev, x, y, z, hcs0, hE, hc⟩, hfm⟩ := opens_msgT.arg h0
  obtain ⟨cs0, rfl, _⟩ := okWide_struct Try.underlying29 (hval 0 29 v0 rfl rfl)
  have e0 : cs0 = (rowMsg m ev x y z).toArray := by cases cs0; simpa [Value.cells] using hcs0
  subst e0
  have hf0 : m.ents.length ≤ 3518437208780 := hfm (weights_at hsz (j := 0) (t := 29) rfl rfl)
  obtain ⟨s1, rfl, rfl, rfl, hs1⟩ := open_string Try.underlying9 (hval 1 9 v1 rfl rfl) h1
  have hl1 : s1.data.toList.length ≤ reachBytes := sized_string hsz (j := 1) (t := 9) rfl rfl
  have hr : reachBytes = 140737488351232 := rfl
  refine (law_wireMessages m ev x y z s1.data.toList _ W hE hc (by omega) (by omega)).mono fun e W' ⟨he, hb⟩ => ?_
  exact ⟨_, he, law_post (by kernel_rfl) (by kernel_rfl) rfl rfl rfl rfl hW' hb⟩

theorem wireMessages_holds : Rows.WireMessagesSaid :=
  OpenClaim.holds_of_wide 3 Try.f3 rfl rfl rfl rfl rfl rfl rfl ⟨rfl, rfl, rfl, rfl, rfl⟩ rfl rfl rfl rfl rfl (by kernel_rfl) Try.func3 (by kernel_rfl)
    (of_decide_eq_true (by kernel_rfl)) (by unfold Func.isWrapper; first | (rw [if_pos (by decide +kernel)]; kernel_rfl) | (rw [if_neg (by decide +kernel)]; exact ⟨rfl, rfl⟩))
    (fun os started H enc _ => wireMessages_lifted os started H enc)

end Go.Proofs.Ytkcllpbbjlbfaaa
