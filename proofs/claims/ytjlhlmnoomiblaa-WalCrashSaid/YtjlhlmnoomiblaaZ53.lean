/-
  What was kept is there: the law.
-/
import Derived.Test.YtjlhlmnoomiblaaZ52
import Derived.Deep.CutBlock
namespace Go.Proofs.Ytjlhlmnoomiblaa
open Go.RowKit Wm Mm Lg Fl
set_option linter.unusedVariables false
set_option linter.unusedSimpArgs false

theorem intsG_nil {F : Nat → Prop} {w : World} : IntsG F w (.slice none 0 0) [] := ⟨none, 0, rfl, fun h => absurd rfl h, by decide⟩
theorem intsG_12 {F : Nat → Prop} {w : World} {D : Nat} (h : w.heap[D]? = some (.cells #[.int .i64 1, .int .i64 2] 3 (0, 0))) (hF : F D) : IntsG F w (.slice (some ⟨D, 0, none⟩) 2 2) [1, 2] := by
  refine ⟨_, _, rfl, fun _ => ⟨D, 0, rfl, hF, fun j x hj => ?_⟩, by decide⟩
  match j, hj with
  | 0, hj => cases hj; exact cell_n h 0 rfl
  | 1, hj => cases hj; exact cell_n h 1 rfl
  | j + 2, hj => simp at hj
theorem PlainSt.lens {i : Nat} {k kw : Kp} {s old : List UInt8} (h : PlainSt i k kw s old) (hi : i ≤ 30) : s.length ≤ 1000000 ∧ k.es.length ≤ 1099511627775 ∧ old.length ≤ 1000000 := by
  have h1 := h.1.len
  refine ⟨by omega, h.1.inv.n, ?_⟩
  rcases h.2 with rfl | ⟨n0, t, v, b, hn, hs, _⟩
  · omega
  · have := hs.len
    omega
set_option maxHeartbeats 4000000 in
set_option maxRecDepth 100000 in
theorem law_crash (tv sv : Value) (part : Int) (tn sn : List Int) (w : World) (ht : Ints w tv tn) (hs : Ints w sv sn) :
    Calls Try.prog 3 #[tv, sv, .int .i64 part] w fun e w' => e = .returned (.bool true) ∧ Below w.heap.size w w' := by
  obtain ⟨post, HP⟩ := hide (fun (e : Ending) (w' : World) => e = .returned (.bool true) ∧ Below w.heap.size w w')
  rw [HP.out]
  obtain ⟨ta, tc, rfl, htm⟩ := len_of_Ints ht
  obtain ⟨so, sc, rfl, hsm⟩ := len_of_Ints hs
  have HT : Hid (∀ w', Below w.heap.size w w' → Ints w' (.slice ta tn.length tc) tn) := fun w' hb => ht.mono hb
  have HS : Hid (∀ w', Below w.heap.size w w' → Ints w' (.slice so sn.length sc) sn) := fun w' hb => hs.mono hb
  have HPo : Hid (∀ w', Below w.heap.size w w' → post (.returned (.bool true)) w') := by
    show ∀ w', _ → _
    intro w' hb
    rw [← HP.out]
    exact ⟨rfl, hb⟩
  clear ht hs
  go_enter Try.func3, Try.ntmps3
  by_cases h0 : 16384 < tn.length
  · have t0 : decide (16384 < tn.length) = true := decide_eq_true h0
    have t0' : decide (16384 < (tn.length : Int)) = true := decide_eq_true (by omega)
    clear h0
    go_wp2_with fail
    exact HPo.out _ (Below.refl _ _)
  have t0 : decide (16384 < tn.length) = false := decide_eq_false h0
  have t0' : decide (16384 < (tn.length : Int)) = false := decide_eq_false (by omega)
  clear h0
  go_upto_region 4 with fail
  have hbA : Below w.heap.size w ((w.alloc (.cells #[.int .i64 1, .int .i64 2] 3)).alloc (.cells #[.slice (some ⟨w.heap.size, 0, none⟩) 2 2, .slice none 0 0, .slice none 0 0] 24)) := ((Below.refl _ _).alloc (Nat.le_refl _) _).alloc (by simp) _
  have hCA := hp_at (w.alloc (.cells #[.int .i64 1, .int .i64 2] 3)) (.cells #[.slice (some ⟨w.heap.size, 0, none⟩) 2 2, .slice none 0 0, .slice none 0 0] 24) (k := w.heap.size + 1) (by simp)
  have hDA : ((w.alloc (.cells #[.int .i64 1, .int .i64 2] 3)).alloc (.cells #[.slice (some ⟨w.heap.size, 0, none⟩) 2 2, .slice none 0 0, .slice none 0 0] 24)).heap[w.heap.size]? = some (.cells #[.int .i64 1, .int .i64 2] 3 (0, 0)) := ((((Below.refl (w.heap.size + 1) (w.alloc (.cells #[.int .i64 1, .int .i64 2] 3))).alloc (by simp) _).block w.heap.size (by omega))).trans (hp_at w _ rfl)
  obtain ⟨W1, hW1⟩ := hide ((w.alloc (.cells #[.int .i64 1, .int .i64 2] 3)).alloc (.cells #[.slice (some ⟨w.heap.size, 0, none⟩) 2 2, .slice none 0 0, .slice none 0 0] 24))
  obtain ⟨C, hC⟩ := hide (w.heap.size + 1)
  rw [hW1.out] at hbA hDA
  rw [hW1.out, hC.out] at hCA
  have HbA := Lib.hid hbA
  have HDA := Lib.hid hDA
  have HCA : Hid (W1.heap[C]? = some (.cells #[.slice (some ⟨w.heap.size, 0, none⟩) 2 2, .slice none 0 0, .slice none 0 0] 24 (0, 0))) := hCA
  clear hbA hDA hCA
  rw [hW1.out, hC.out]
  go_upto_region 5 with fail
  show Code.wp _ _ _ _ (W1.alloc (.cells #[.int .i64 0, .int .i64 0, .int .i64 0, .int .i64 0, .int .i64 0, .slice none 0 0, .int .i64 0, .int .i64 0, .slice none 0 0, .slice none 0 0, .slice none 0 0, .string ⟨#[]⟩, .slice none 0 0, .slice none 0 0, .slice none 0 0] 33))
  have HbP : Hid (Below W1.heap.size W1 (W1.alloc (.cells #[.int .i64 0, .int .i64 0, .int .i64 0, .int .i64 0, .int .i64 0, .slice none 0 0, .int .i64 0, .int .i64 0, .slice none 0 0, .slice none 0 0, .slice none 0 0, .string ⟨#[]⟩, .slice none 0 0, .slice none 0 0, .slice none 0 0] 33))) := (Below.refl _ _).alloc (Nat.le_refl _) _
  have hP2 := hp_at W1 (.cells #[.int .i64 0, .int .i64 0, .int .i64 0, .int .i64 0, .int .i64 0, .slice none 0 0, .int .i64 0, .int .i64 0, .slice none 0 0, .slice none 0 0, .slice none 0 0, .string ⟨#[]⟩, .slice none 0 0, .slice none 0 0, .slice none 0 0] 33) (k := W1.heap.size) rfl
  obtain ⟨W2, hW2⟩ := hide (W1.alloc (.cells #[.int .i64 0, .int .i64 0, .int .i64 0, .int .i64 0, .int .i64 0, .slice none 0 0, .int .i64 0, .int .i64 0, .slice none 0 0, .slice none 0 0, .slice none 0 0, .string ⟨#[]⟩, .slice none 0 0, .slice none 0 0, .slice none 0 0] 33))
  have hlc := lt_of_block HCA.out
  have hld := lt_of_block HDA.out
  have hls := HbA.out.size
  obtain ⟨P, hP⟩ := hide W1.heap.size
  rw [hP.out] at hP2 hlc hld hls
  have hP1 := hP.out
  rw [hW2.out] at HbP hP2
  rw [hW2.out, hP.out]
  have HC2 := Lib.hid ((HbP.out.block C (by omega)).trans HCA.out)
  have c0 := cell_n HC2.out 0 (v := .slice (some ⟨w.heap.size, 0, none⟩) 2 2) rfl
  have c1 := cell_n HC2.out 1 (v := .slice none 0 0) rfl
  have c2 := cell_n HC2.out 2 (v := .slice none 0 0) rfl
  have q0 := cell_n hP2 12 (v := .slice none 0 0) rfl
  have q1 := cell_n hP2 13 (v := .slice none 0 0) rfl
  have q2 := cell_n hP2 14 (v := .slice none 0 0) rfl
  have f0 := free_n hP2 12
  have f1 := free_n hP2 13
  have f2 := free_n hP2 14
  have HP2 : Hid (W2.heap[P]? = some (.cells #[.int .i64 0, .int .i64 0, .int .i64 0, .int .i64 0, .int .i64 0, .slice none 0 0, .int .i64 0, .int .i64 0, .slice none 0 0, .slice none 0 0, .slice none 0 0, .string ⟨#[]⟩, .slice none 0 0, .slice none 0 0, .slice none 0 0] 33 (0, 0))) := hP2
  have Hl := Lib.hid (And.intro hlc (And.intro hld hls))
  clear hP2 hlc hld hls hP1
  go_upto_region 8 with fail
  have hc : Chg (fun b => b = P) W2 (setFrom W2 P 12 [.slice (some ⟨w.heap.size, 0, none⟩) 2 2, .slice none 0 0, .slice none 0 0]) := chg_from P _ W2 12
  have hP3 : (setFrom W2 P 12 [.slice (some ⟨w.heap.size, 0, none⟩) 2 2, .slice none 0 0, .slice none 0 0]).heap[P]? = some (.cells (cellsK (zeroK c12) (.slice none 0 0) (.slice none 0 0) (.slice none 0 0) (.slice none 0 0) (.slice (some ⟨w.heap.size, 0, none⟩) 2 2) (.slice none 0 0) (.slice none 0 0)) 33 (0, 0)) := from_at (b := P) (t := 33) (vs := [.slice (some ⟨w.heap.size, 0, none⟩) 2 2, .slice none 0 0, .slice none 0 0]) (w := W2) (i := 12) (xs := [.int .i64 0, .int .i64 0, .int .i64 0, .int .i64 0, .int .i64 0, .slice none 0 0, .int .i64 0, .int .i64 0, .slice none 0 0, .slice none 0 0, .slice none 0 0, .string ⟨#[]⟩, .slice none 0 0, .slice none 0 0, .slice none 0 0]) HP2.out
  have hl1 := Hl.out
  have hPe := hP.out
  have hD2 := (HbP.out.block w.heap.size (by omega)).trans HDA.out
  obtain ⟨W3, hW3⟩ := hide (setFrom W2 P 12 [.slice (some ⟨w.heap.size, 0, none⟩) 2 2, .slice none 0 0, .slice none 0 0])
  show Code.wp _ _ _ _ (setFrom W2 P 12 [.slice (some ⟨w.heap.size, 0, none⟩) 2 2, .slice none 0 0, .slice none 0 0])
  rw [hW3.out] at hc hP3
  rw [hW3.out]
  have HP3 := Lib.hid hP3
  have HC3 := Lib.hid (hc.at HC2.out (by omega))
  have HD3 := Lib.hid (hc.at hD2 (by omega))
  have HB3 : Hid (Below w.heap.size w W3) := (HbA.out.trans (HbP.out.mono HbA.out.size)).trans (hc.toBelow (fun b hb => by omega) (by have := HbP.out.size; omega))
  clear hc hP3 hD2 c0 c1 c2 q0 q1 q2 f0 f1 f2 hl1
  have k0 := cell_n HP3.out 0 (v := .int .i64 0) rfl
  have k1 := cell_n HP3.out 1 (v := .int .i64 0) rfl
  have k2 := cell_n HP3.out 2 (v := .int .i64 0) rfl
  have k3 := cell_n HP3.out 3 (v := .int .i64 0) rfl
  have k4 := cell_n HP3.out 4 (v := .int .i64 0) rfl
  have k5 := cell_n HP3.out 5 (v := .slice none 0 0) rfl
  have k6 := cell_n HP3.out 6 (v := .int .i64 0) rfl
  have k7 := cell_n HP3.out 7 (v := .int .i64 0) rfl
  have k8 := cell_n HP3.out 8 (v := .slice none 0 0) rfl
  have k9 := cell_n HP3.out 9 (v := .slice none 0 0) rfl
  have k10 := cell_n HP3.out 10 (v := .slice none 0 0) rfl
  have k11 := cell_n HP3.out 11 (v := .string ⟨#[]⟩) rfl
  have k12 := cell_n HP3.out 12 (v := .slice (some ⟨w.heap.size, 0, none⟩) 2 2) rfl
  have k13 := cell_n HP3.out 13 (v := .slice none 0 0) rfl
  have k14 := cell_n HP3.out 14 (v := .slice none 0 0) rfl
  go_upto_region 9 with fail
  show Code.wp _ _ _ _ (W3.alloc (.cells (cellsK (zeroK c12) (.slice none 0 0) (.slice none 0 0) (.slice none 0 0) (.slice none 0 0) (.slice (some ⟨w.heap.size, 0, none⟩) 2 2) (.slice none 0 0) (.slice none 0 0)) 33))
  have HBA : Hid (Below W3.heap.size W3 (W3.alloc (.cells (cellsK (zeroK c12) (.slice none 0 0) (.slice none 0 0) (.slice none 0 0) (.slice none 0 0) (.slice (some ⟨w.heap.size, 0, none⟩) 2 2) (.slice none 0 0) (.slice none 0 0)) 33))) := (Below.refl _ _).alloc (Nat.le_refl _) _
  have HA4 : Hid ((W3.alloc (.cells (cellsK (zeroK c12) (.slice none 0 0) (.slice none 0 0) (.slice none 0 0) (.slice none 0 0) (.slice (some ⟨w.heap.size, 0, none⟩) 2 2) (.slice none 0 0) (.slice none 0 0)) 33)).heap[W3.heap.size]? = some (.cells (cellsK (zeroK c12) (.slice none 0 0) (.slice none 0 0) (.slice none 0 0) (.slice none 0 0) (.slice (some ⟨w.heap.size, 0, none⟩) 2 2) (.slice none 0 0) (.slice none 0 0)) 33 (0, 0))) := hp_at _ _ rfl
  have hl1 := Hl.out
  have hlp := lt_of_block HP3.out
  have hlc := lt_of_block HC3.out
  obtain ⟨W4, hW4⟩ := hide (W3.alloc (.cells (cellsK (zeroK c12) (.slice none 0 0) (.slice none 0 0) (.slice none 0 0) (.slice none 0 0) (.slice (some ⟨w.heap.size, 0, none⟩) 2 2) (.slice none 0 0) (.slice none 0 0)) 33))
  have HB4 : Hid (Below w.heap.size w W4) := by show Below _ _ _; rw [← hW4.out]; exact HB3.out.trans (HBA.out.mono HB3.out.size)
  have HP4 := Lib.hid ((HBA.out.block P hlp).trans HP3.out)
  have HC4 := Lib.hid ((HBA.out.block C hlc).trans HC3.out)
  have HD4 := Lib.hid ((HBA.out.block w.heap.size (by omega)).trans HD3.out)
  obtain ⟨A, hA⟩ := hide W3.heap.size
  have HBs : Hid (P ≠ A ∧ C ≠ P ∧ C ≠ A ∧ w.heap.size ≤ P ∧ w.heap.size ≤ A ∧ w.heap.size ≠ P ∧ w.heap.size ≠ A) := by
    have hAe := hA.out
    have hCe := hC.out
    show _ ∧ _
    refine ⟨?_, ?_, ?_, ?_, ?_, ?_, ?_⟩ <;> omega
  rw [hW4.out, hA.out] at HA4
  rw [hW4.out] at HP4 HC4 HD4
  rw [hW4.out, hA.out]
  have hst : Hid (CrashAt w W4 C P A 0 (zeroK c12) (zeroK c12) [] [] (some ⟨w.heap.size, 0, none⟩) none none 2 0 0 (.slice none 0 0) (.slice none 0 0) (.slice none 0 0) (.slice none 0 0) (.slice (some ⟨w.heap.size, 0, none⟩) 2 2) (.slice none 0 0) (.slice none 0 0) (.slice none 0 0) (.slice none 0 0) (.slice none 0 0) (.slice none 0 0) (.slice (some ⟨w.heap.size, 0, none⟩) 2 2) (.slice none 0 0) (.slice none 0 0)) := by
    have hbs := HBs.out
    have hc : ConfG (FF P A) W4 (.slice (some ⟨w.heap.size, 0, none⟩) 2 2) (.slice none 0 0) (.slice none 0 0) c12 := ⟨intsG_12 HD4.out ⟨hbs.2.2.2.2.2.1, hbs.2.2.2.2.2.2⟩, intsG_nil, intsG_nil⟩
    have hn : ConfG (FF P A) W4 (.slice none 0 0) (.slice none 0 0) (.slice none 0 0) noC := ⟨intsG_nil, intsG_nil, intsG_nil⟩
    have he : Ents (FF P A) W4 (.slice none 0 0) [] := Sl.nil _ _ _ _
    exact ⟨⟨HP4.out, he, hn, hc, fun h => h.1 rfl⟩, ⟨HA4.out, he, hn, hc, fun h => h.2 rfl⟩, HC4.out, hc, HB4.out, Stk.zero, Or.inl rfl⟩
  have HBq : Hid (P ≠ A ∧ C ≠ P ∧ C ≠ A ∧ w.heap.size ≤ P ∧ w.heap.size ≤ A) := ⟨HBs.out.1, HBs.out.2.1, HBs.out.2.2.1, HBs.out.2.2.2.1, HBs.out.2.2.2.2.1⟩
  clear hl1 hlp hlc k0 k1 k2 k3 k4 k5 k6 k7 k8 k9 k10 k11 k12 k13 k14
  go_wp2_with fail
  go_loopw [9, 10, 12] (fun s9 s10 s12 wr => ∃ (i : Nat) (k kw : Kp) (s old : List UInt8) (ev x y z cx cy cz ew xw yw zw dx dy dz : Value), s9 = str s ∧ s10 = str old ∧ s12 = .int .i64 (i : Int) ∧ i ≤ 30 ∧ i ≤ tn.length ∧ Hid (CrashAt w wr C P A i k kw s old (some ⟨w.heap.size, 0, none⟩) none none 2 0 0 ev x y z cx cy cz ew xw yw zw dx dy dz)) (fun _ _ s12 _ => 30 - (intOf s12).toNat)
  case atStart => exact ⟨0, _, _, [], [], _, _, _, _, _, _, _, _, _, _, _, _, _, _, rfl, rfl, rfl, by decide, Nat.zero_le _, hst⟩
  case round =>
    rename_i K1 hK1
    obtain ⟨i, k, kw, s, old, ev, x, y, z, cx, cy, cz, ew, xw, yw, zw, dx, dy, dz, rfl, rfl, rfl, hi30, hin, hcr⟩ := hrel
    obtain ⟨kp, ka, cb, cc, wb, pp⟩ := hcr.out
    have J1 := Lib.hid kp
    have J2 := Lib.hid ka
    have J3 := Lib.hid cb
    have J4 := Lib.hid cc
    have J5 := Lib.hid wb
    have J6 := Lib.hid pp
    clear kp ka cb cc wb pp
    have HPo := HPo
    by_cases h1 : i < tn.length ∧ i < 30
    · obtain ⟨hit, hi⟩ := h1
      obtain ⟨tb, tf, hte, -⟩ := Ints.at2 (HT.out wr J5.out) hit
      subst hte
      have q1 : decide ((i : Int) < (tn.length : Int)) = true := decide_eq_true (by omega)
      have q2 : decide ((i : Int) < 30) = true := decide_eq_true (by omega)
      go_upto_block 1 with fail
      refine piece_any (crash_round w wr C P A i k kw s old _ _ _ _ _ _ _ _ _ _ _ _ _ _ _ _ _ _ _ _ so sc sn tb tf tc tn J1 J2 J3 J4 J5 J6 hi hit HBq HS HT _ ?_)
      unfold Hid
      intros
      rename_i hr
      obtain ⟨k', kw', s', old', ev', x', y', z', cx', cy', cz', ew', xw', yw', zw', dx', dy', dz', rfl, rfl, hr'⟩ := hr
      have Hi1 : Hid (i + 1 ≤ 30 ∧ i + 1 ≤ tn.length) := ⟨by omega, by omega⟩
      have hw64 : IntKind.i64.wrap ((i : Int) + 1) = (i : Int) + 1 := IntWalk.i64_in _ (by omega)
      clear q1 q2
      go_wp2_with fail
      go_roundw
      case rel => exact ⟨i + 1, k', kw', s', old', _, _, _, _, _, _, _, _, _, _, _, _, _, _, rfl, rfl, by go_num, Hi1.out.1, Hi1.out.2, hr'⟩
      case measure => simp [intOf]; omega
    · have J12 := Lib.hid J4.out.conf
      have Jop := Lib.hid J6.out.1.open
      have Jl := Lib.hid (J6.out.lens hi30)
      have Jt := Lib.hid J6.out.torn
      by_cases h2 : i < tn.length
      · have h3 : ¬ i < 30 := fun h => h1 ⟨h2, h⟩
        have q1 : decide ((i : Int) < (tn.length : Int)) = true := decide_eq_true (by omega)
        have q2 : decide ((i : Int) < 30) = false := decide_eq_false (by omega)
        clear h1 h3
        iterate 60 (first | done | (exact crash_end (FF P A) w wr post C P A k kw _ _ _ _ _ _ _ _ _ _ _ _ _ _ s old part _ _ _ _ _ _ J1 J2 J3 J12 Jop Jl Jt J5 HPo) | (refine hK1 _ _ ?_; (exact crash_end (FF P A) w wr post C P A k kw _ _ _ _ _ _ _ _ _ _ _ _ _ _ s old part _ _ _ _ _ _ J1 J2 J3 J12 Jop Jl Jt J5 HPo)) | go_step)
      · have q1 : decide ((i : Int) < (tn.length : Int)) = false := decide_eq_false (by omega)
        clear h1
        iterate 60 (first | done | (exact crash_end (FF P A) w wr post C P A k kw _ _ _ _ _ _ _ _ _ _ _ _ _ _ s old part _ _ _ _ _ _ J1 J2 J3 J12 Jop Jl Jt J5 HPo) | (refine hK1 _ _ ?_; (exact crash_end (FF P A) w wr post C P A k kw _ _ _ _ _ _ _ _ _ _ _ _ _ _ s old part _ _ _ _ _ _ J1 J2 J3 J12 Jop Jl Jt J5 HPo)) | go_step)
end Go.Proofs.Ytjlhlmnoomiblaa
