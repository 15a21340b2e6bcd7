/-
  WireFrames: for every body and every text the law answers true and leaves its arguments alone. No condition.
-/
import Derived.Test.YtbonmeogmjfkeaaFr
import Derived.Test.YtbonmeogmjfkeaaLift
namespace Go.Proofs.Ytbonmeogmjfkeaa
open Go.ChangeShapes Go.WideShapes Go.ChangeAt Go.RowKit Wm Mm
open Go.ChangeMaps (open_string)
set_option linter.unusedVariables false

theorem known_frame : frameB [49, 50, 51, 52, 53, 54, 55, 56, 57] = [9, 49, 50, 51, 52, 53, 54, 55, 56, 57, 131, 146, 6, 227] := by decide +kernel
theorem known_frameE : frameE [49, 50, 51, 52, 53, 54, 55, 56, 57] = 0 := by decide +kernel
theorem frameB_len (body : List UInt8) : (frameB body).length ≤ 65549 := by
  unfold frameB
  split
  · simp
  · exact frame_len body (by omega)

set_option maxHeartbeats 4000000 in
set_option maxRecDepth 100000 in
theorem law_frames (body s : List UInt8) (w : World) (hb : body.length ≤ 140737488351232) (hs : s.length ≤ 140737488351232) :
    Calls Try.prog 7 #[str body, str s] w fun e w' => e = .returned (.bool true) ∧ Below w.heap.size w w' := by
  have hfl := frameB_len body
  have K1 := Lib.hid (wire_frame body w (by omega))
  have K2 := Lib.hid (fun w => ref_frame body w (by omega))
  have K3 := Lib.hid (fun w => wire_unframe s w (by omega))
  have K4 := Lib.hid (fun w => ref_unframe s w (by omega))
  have K5 := Lib.hid (fun w => wire_unframe (frameB body ++ s) w (by simp; omega))
  have K6 := Lib.hid (fun w => ref_unframe (frameB body ++ s) w (by simp; omega))
  have K7 := Lib.hid (fun w => wire_frame [49, 50, 51, 52, 53, 54, 55, 56, 57] w (by decide))
  have K8 := Lib.hid (fun w => wire_sum s w (by omega))
  have K9 := Lib.hid (fun w => ref_sum s w (by omega))
  have hsl := sum_lt s
  obtain ⟨f, hf⟩ := hide (frameB body)
  obtain ⟨z, hz⟩ := hide (frameE body)
  obtain ⟨c, hc⟩ := hide (sum s)
  rw [hf.out] at hfl K1 K2 K5 K6
  rw [hz.out] at K1 K2
  rw [hc.out] at K8 K9 hsl
  rw [known_frame, known_frameE] at K7
  obtain ⟨R, hR⟩ := hide (unframe s)
  obtain ⟨T, hT⟩ := hide (unframe (f ++ s))
  rw [hR.out] at K3 K4
  rw [hT.out] at K5 K6
  have hsum : f.length + s.length ≤ 9223372036854775807 := by omega
  clear hb
  go_enter Try.func7, Try.ntmps7
  go_wp2_with fail
  refine K1.out.mono ?_
  rintro e w1 ⟨rfl, hb1⟩
  have Hb1 := Lib.hid hb1
  clear hb1
  go_wp2_with fail
  refine (K2.out _).mono ?_
  rintro e w2 ⟨rfl, hb2⟩
  have Hb2 := Lib.hid (Hb1.out.trans (hb2.mono Hb1.out.size))
  clear hb2
  go_wp2_with fail
  refine (K3.out _).mono ?_
  rintro e w3 ⟨rfl, hb3⟩
  have Hb3 := Lib.hid (Hb2.out.trans (hb3.mono Hb2.out.size))
  clear hb3
  go_wp2_with fail
  refine (K4.out _).mono ?_
  rintro e w4 ⟨rfl, hb4⟩
  have Hb4 := Lib.hid (Hb3.out.trans (hb4.mono Hb3.out.size))
  clear hb4
  go_wp2_with fail
  refine (K5.out _).mono ?_
  rintro e w5 ⟨rfl, hb5⟩
  have Hb5 := Lib.hid (Hb4.out.trans (hb5.mono Hb4.out.size))
  clear hb5
  go_wp2_with fail
  refine (K6.out _).mono ?_
  rintro e w6 ⟨rfl, hb6⟩
  have Hb6 := Lib.hid (Hb5.out.trans (hb6.mono Hb5.out.size))
  clear hb6
  go_wp2_with fail
  refine (K7.out _).mono ?_
  rintro e w7 ⟨rfl, hb7⟩
  have Hb7 := Lib.hid (Hb6.out.trans (hb7.mono Hb6.out.size))
  clear hb7
  go_wp2_with fail
  refine (K8.out _).mono ?_
  rintro e w8 ⟨rfl, rfl⟩
  go_wp2_with fail
  refine (K9.out _).mono ?_
  rintro e w9 ⟨rfl, rfl⟩
  go_wp2_with fail
  go_ret
  exact ⟨rfl, Hb7.out⟩

set_option maxRecDepth 100000 in
theorem wireFrames_lifted (os : Os) (started : os.Started) (H : Type) (enc : TypeId × Value → H) :
    ReturnsInHanded {} Try.checked os 7 .any (Rows.wireFramesSpec.pre6 enc Try.prog Try.f7 Rows.wireFramesRow.domain false) (Rows.wireFramesSpec.post enc Try.prog Try.f7 false true false false) := by
  refine returnsInHanded_of_change_sized (C := Try.checked) law_own started (by kernel_rfl) Try.func7
    (ChangeSpec.witness6 (enc := enc) (C := Try.checked) false ⟨#[], #[.string .empty, .string .empty], []⟩ 8 (by kernel_rfl) (by kernel_rfl) (by kernel_rfl) (by kernel_rfl)) ?_
  intro W base args ds gs before hval0 hW _ hsz0 _
  have hsz : (DataW.weightsEach Try.prog (Try.f7.params.toList ++ Rows.wireFramesSpec.plain.varTypes Try.prog) (ds ++ gs)).all (· ≤ reachBytes) = true := hsz0
  have hval : ∀ (j : Nat) t v, Try.f7.params[j]? = some t → args[j]? = some v → Value.okWide Try.prog W .any base t v := hval0
  have hW' : DataW.Whole enc Try.prog Try.f7.params.toList Rows.wireFramesSpec.vars false W args.toList ds gs before := hW
  obtain ⟨p, q, hA0, hV, rfl, hfz, hnd⟩ := hW
  have hA : DataW.TrodAll enc Try.prog W 0 (fun _ => true) true Try.f7.params.toList args.toList ds p := hA0
  rw [Try.params7] at hA hval hsz
  obtain ⟨v0, vs0, d0, ds0, p0, q0, hargs, rfl, rfl, h0, r0⟩ := trodAll_cons hA
  obtain ⟨v1, vs1, d1, ds1, p1, q1, rfl, rfl, rfl, h1, r1⟩ := trodAll_cons r0
  obtain ⟨rfl, rfl, rfl⟩ := trodAll_nil r1
  obtain rfl : args = #[v0, v1] := by cases args; simp_all
  obtain ⟨rfl, rfl⟩ := trodVars_none hV
  clear hA0 hval0 hsz0
  obtain ⟨s0, rfl, rfl, rfl, hs0⟩ := open_string Try.underlying9 (hval 0 9 v0 rfl rfl) h0
  obtain ⟨s1, rfl, rfl, rfl, hs1⟩ := open_string Try.underlying9 (hval 1 9 v1 rfl rfl) h1
  have hl0 : s0.data.toList.length ≤ reachBytes := sized_string hsz (j := 0) (t := 9) rfl rfl
  have hl1 : s1.data.toList.length ≤ reachBytes := sized_string hsz (j := 1) (t := 9) rfl rfl
  have hr : reachBytes = 140737488351232 := rfl
  refine (law_frames s0.data.toList s1.data.toList W (by omega) (by omega)).mono fun e W' ⟨he, hb⟩ => ?_
  exact ⟨_, he, law_post (by kernel_rfl) (by kernel_rfl) rfl rfl rfl rfl hW' hb⟩

theorem wireFrames_holds : Rows.WireFramesSaid :=
  OpenClaim.holds_of_wide 7 Try.f7 rfl rfl rfl rfl rfl rfl rfl ⟨rfl, rfl, rfl, rfl, rfl⟩ rfl rfl rfl rfl rfl (by kernel_rfl) Try.func7 (by kernel_rfl)
    (of_decide_eq_true (by kernel_rfl)) (by unfold Func.isWrapper; first | (rw [if_pos (by decide +kernel)]; kernel_rfl) | (rw [if_neg (by decide +kernel)]; exact ⟨rfl, rfl⟩))
    (fun os started H enc _ => wireFrames_lifted os started H enc)

end Go.Proofs.Ytbonmeogmjfkeaa
