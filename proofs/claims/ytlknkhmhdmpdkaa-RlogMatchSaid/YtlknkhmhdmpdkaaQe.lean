/-
  RlogMatch: the law's walk.
-/
import Derived.Test.YtlknkhmhdmpdkaaLj
import Derived.Test.YtlknkhmhdmpdkaaQd
import Derived.Test.YtlknkhmhdmpdkaaQf
namespace Go.Proofs.Ytlknkhmhdmpdkaa
open Go.RowKit Wm Mm Lg
set_option linter.unusedVariables false
set_option linter.unusedSimpArgs false

set_option maxHeartbeats 8000000 in
set_option maxRecDepth 100000 in
theorem law_rlogMatch (sv ov : Value) (steps own : List Int) (shr from' many : Int) (w : World) (h1 : Ints w sv steps) (h2 : Ints w ov own) :
    Calls Try.prog 6 #[sv, ov, .int .i64 shr, .int .i64 from', .int .i64 many] w fun e w' => e = .returned (.bool true) ∧ Below w.heap.size w w' := by
  have hI1 := Lib.hid h1
  have hI2 := Lib.hid h2
  obtain ⟨ao, cap, rfl, _, hmax⟩ := h1
  obtain ⟨ao2, cap2, rfl, _, hmax2⟩ := h2
  have hm1 : steps.length ≤ 9223372036854775807 := hmax
  have hm2 : own.length ≤ 9223372036854775807 := hmax2
  clear hmax hmax2
  go_enter Try.func6, Try.ntmps6
  by_cases a1 : 16384 < steps.length
  · have t1 : decide ((16384 : Int) < (steps.length : Int)) = true := decide_eq_true (by omega)
    clear a1
    go_wp2_with fail
    go_ret
    exact ⟨rfl, Below.refl _ _⟩
  have t1 : decide ((16384 : Int) < (steps.length : Int)) = false := decide_eq_false (by omega)
  by_cases a2 : 16384 < own.length
  · have t2 : decide ((16384 : Int) < (own.length : Int)) = true := decide_eq_true (by omega)
    clear a1 a2
    go_wp2_with fail
    go_ret
    exact ⟨rfl, Below.refl _ _⟩
  have t2 : decide ((16384 : Int) < (own.length : Int)) = false := decide_eq_false (by omega)
  obtain ⟨V2, hV2⟩ := hide (w.alloc (.cells #[.int .i64 1, .int .i64 1, .int .i64 0, str []] 56))
  obtain ⟨B2, hB2⟩ := hide w.heap.size
  have he1 : Ents (fun _ => True) V2 (.slice (some ⟨B2, 0, none⟩) 1 1) [e11] := by
    have hq : V2.heap[B2]? = some (.cells #[.int .i64 1, .int .i64 1, .int .i64 0, str []] 56 (0, 0)) := by rw [← hV2.out, ← hB2.out]; exact hp_at _ _ rfl
    refine ⟨some ⟨B2, 0, none⟩, 1, rfl, ⟨Nat.le_refl _, fun h => by cases h⟩, by decide, fun _ => ⟨B2, 0, rfl, trivial, lt_of_block hq, fun j y hj => ?_⟩⟩
    have hj0 : j = 0 := by
      rcases Nat.eq_zero_or_pos j with h | h
      · exact h
      · rw [List.getElem?_eq_none (by simp; omega)] at hj; cases hj
    subst hj0
    simp at hj
    subst hj
    refine ⟨rowE e11, rfl, rfl, fun i u hu => ?_⟩
    rw [show 0 + 0 * 4 + i = i from by omega]
    exact cell_n hq i (by simpa using hu)
  have H2 : Hid (Below w.heap.size w V2) := by show _; rw [← hV2.out]; exact (Below.refl _ _).alloc (Nat.le_refl _) _
  have HX := Lib.hid (wire_extend 0 0 0 0 (.slice none 0 0) (.slice (some ⟨B2, 0, none⟩) 1 1) [] [e11] (fun _ => True) _ V2 (Sl.nil _ _ _ _) ⟨by decide, by decide, by decide, fun k hk => by simp at hk⟩ he1 (fun k hk => by
    have : k = 0 := by simp at hk; omega
    subst this; rfl) (by decide) (by decide) (by decide))
  obtain ⟨X, hX⟩ := hide (ext 0 0 [] 0 0 [e11])
  have hXl : X.es.length = 1 := by rw [← hX.out]; exact known_len
  rw [hX.out] at HX
  have HXl := Lib.hid hXl
  clear he1 hXl a1 a2
  go_wp2_with fail
  rw [hV2.out, hB2.out]
  refine HX.out.mono ?_
  rintro e V3 ⟨v3, rfl, ho3, hbb⟩
  obtain ⟨a3, c3, rfl⟩ := owns_slice ho3
  rw [HXl.out]
  obtain ⟨V4, hV4⟩ := hide (V3.alloc (.cells (oLog 0 0 (.slice a3 1 c3)) 52))
  obtain ⟨B4, hB4⟩ := hide V3.heap.size
  have k2 : V4.cell? ⟨B4, 2, none⟩ = some (.slice a3 1 c3) := by rw [← hV4.out, ← hB4.out]; exact cell_n (hp_at _ _ rfl) 2 rfl
  have H4 : Hid (Below w.heap.size w V4) := by
    show _
    rw [← hV4.out]
    have h3 := H2.out.trans (hbb.mono H2.out.size)
    exact h3.alloc h3.size _
  clear hbb ho3
  go_upto_region 4 with fail
  rw [hV4.out, hB4.out]
  have KG := Lib.hid (law_grown _ steps V4 (hI1.out.mono H4.out))
  obtain ⟨L, hL⟩ := hide (leadL steps)
  rw [hL.out] at KG
  go_wp2_with fail
  refine KG.out.mono ?_
  rintro e V5 ⟨a5, c5, rfl, ho5, hbb⟩
  have H5 := Lib.hid (H4.out.trans (hbb.mono H4.out.size))
  obtain ⟨S5, hS5⟩ := hide V4.heap.size
  rw [hS5.out] at ho5
  have Ho5 := Lib.hid ho5
  have hL40 : L.length ≤ 40 := by rw [← hL.out, leadL_len]; omega
  clear hbb ho5 k2
  have KP := Lib.hid (pick_anyP shr ((L.length : Int) + 1) V5 (by omega) (by omega))
  have hk := pickP_lt (c := shr) (n := (L.length : Int) + 1) (by omega)
  obtain ⟨k, hkk⟩ := hide (pickP shr ((L.length : Int) + 1))
  rw [hkk.out] at KP hk
  go_wp2_with fail
  refine KP.out.mono ?_
  rintro e w1 ⟨rfl, rfl⟩
  have hkL : k ≤ L.length := by omega
  have hlk : (L.take k).length = k := by rw [List.length_take]; omega
  have htk : Ents (fun g => S5 ≤ g) V5 (.slice a5 (L.take k).length c5) (L.take k) := by rw [hlk]; exact Ho5.out.ents.take (k := k) hkL
  obtain ⟨_, _, he5, hcap5, _⟩ := Ho5.out.ents.slice
  have hc5 : L.length ≤ c5 := by injection he5 with _ _ e3; rw [e3]; exact hcap5
  have hs := src_sl (P := Try.prog) (tx := 50) rowE Try.underlying50 (by decide) rowE_len rowE_one htk
  rw [hlk] at hs
  have Hs := Lib.hid hs
  have HkL := Lib.hid hkL
  have HL40 := Lib.hid hL40
  clear hs htk he5 hcap5
  have q1 : (k : Int) ≤ (c5 : Int) := by omega
  have q2 : k ≤ c5 := by omega
  go_wp2_with (at_builtin; refine wpList_append_src rfl _ _ 50 50 rfl V5.heap.size 56 _ 4 40 Try.underlying50 info_ent rfl _ _ _ rfl (World.ownsRow_nil V5 V5.heap.size 56 4) _ _ _ rfl Hs.out (by have := HkL.out; have := HL40.out; unfold maxLen; omega) (by have := HkL.out; have := HL40.out; omega) (Nat.le_refl _) ?_)
  intro v6 V6 ho6 hg6
  obtain ⟨a6, c6, rfl⟩ := owns_slice ho6
  have hb6 : Below V5.heap.size V5 V6 := grown_fresh0 hg6 (Nat.le_refl _)
  obtain ⟨S6, hS6⟩ := hide V5.heap.size
  rw [hS6.out] at ho6 hb6
  have H6 := Lib.hid hb6
  have Ho6 := Lib.hid ho6
  have Hv5 : Hid (w.heap.size ≤ S6) := by show _ ≤ _; rw [← hS6.out]; exact H5.out.size
  obtain ⟨N, hN⟩ := hide (min own.length 20)
  obtain ⟨R, hR⟩ := hide (raise 100 2 k (fun _ => [111, 119, 110]) own)
  have Hw : Hid (∀ W', Below S6 V5 W' → Below w.heap.size w W') := fun W' h => H5.out.trans (h.mono Hv5.out)
  have hv5s : S6 ≤ V5.heap.size := by rw [hS6.out]; exact Nat.le_refl _
  have Hv5s := Lib.hid hv5s
  clear ho6 hg6 hb6 hv5s q1 q2 hc5
  obtain ⟨M, hM⟩ := hide (mineL L k own)
  have hMl : M.length = k + min own.length 20 := by rw [← hM.out]; exact mineL_len own hkL
  have HMl := Lib.hid hMl
  clear hMl
  have HM : Hid (∀ (wr : World) (a : Option Addr) (c j : Nat), j = min own.length 20 → Hid (wr.ownsRow S6 56 4 (.slice a (k + j) c) (k + j) ((L.take k).flatMap rowE ++ (R j).1.flatMap rowE)) → Hid (OwnE S6 wr (.slice a M.length c) M)) := by
    intro wr a c j hj h
    show wr.ownsRow _ _ _ _ _ _
    have e : M.flatMap rowE = (L.take k).flatMap rowE ++ (R j).1.flatMap rowE := by
      rw [← hM.out, ← hR.out, hj]
      unfold mineL
      rw [List.flatMap_append]
    rw [HMl.out, e, ← hj]
    exact h.out
  go_upto_block 0 with fail
  go_cut [17] (fun v wx => ∃ a c, v = .slice a M.length c ∧ Hid (OwnE S6 wx (.slice a M.length c) M) ∧ Hid (Below S6 V5 wx))
  case first =>
      go_wp2_with fail
      go_loopw [17, 18, 19] (fun v t i wr => ∃ j : Nat, ∃ T : Int, ∃ a c, i = .int .i64 j ∧ t = .int .i64 T ∧ v = .slice a (k + j) c ∧ j ≤ 20 ∧ Hid (j ≤ N) ∧ Hid ((R j).2 = T) ∧ Hid (Below S6 V5 wr) ∧ Hid (wr.ownsRow S6 56 4 (.slice a (k + j) c) (k + j) ((L.take k).flatMap rowE ++ (R j).1.flatMap rowE)))
        (fun _ _ i _ => 21 - (intOf i).toNat)
      case atStart => exact ⟨0, 100, a6, c6, rfl, rfl, rfl, by decide, Nat.zero_le _, by rw [← hR.out]; rfl, H6, by rw [← hR.out]; show V6.ownsRow _ _ _ _ _ _; simpa [raise] using Ho6.out⟩
      case round =>
        obtain ⟨j, T, a, c, rfl, rfl, rfl, h20, hj, hT, hb5, ho⟩ := hrel
        by_cases hlt : j < own.length
        · by_cases hl2 : j < 20
          · obtain ⟨b, off, rfl, hcell⟩ := Ints_at (hI2.out.mono (Hw.out _ hb5.out)) j own[j] (by simp [hlt])
            obtain ⟨x, hx⟩ := hide own[j]
            rw [hx.out] at hcell
            have t2 : decide ((j : Int) < 20) = true := decide_eq_true (by omega)
            have hTr := raise_term (t0 := 100) (m := 2) (b := k) (d := fun _ => [111, 119, 110]) (cs := own) (by decide) j
            rw [hR.out, hT.out] at hTr
            have hTl : 100 ≤ T := hTr.1
            have hTh : T ≤ 120 := by have := hTr.2; omega
            clear hTr
            have KP := Lib.hid (fun w' => pick_anyP x 2 w' (by decide) (by decide))
            have hp3 := pickP_lt (c := x) (n := 2) (by decide)
            obtain ⟨q, hq⟩ := hide (pickP x 2)
            rw [hq.out] at KP hp3
            go_wp2_with fail
            refine (KP.out _).mono ?_
            rintro e w1 ⟨rfl, rfl⟩
            have hs1 : 1 ≤ T + (q : Int) := by omega
            have hs2 : T + (q : Int) ≤ 122 := by omega
            have Hkj : Hid (k + j ≤ 60) := by have := HkL.out; have := HL40.out; show _ ≤ _; omega
            have hkj : k ≤ 40 := by have := HkL.out; have := HL40.out; omega
            have hsz : Hid (S6 ≤ wr.heap.size) := Nat.le_trans Hv5s.out hb5.out.size
            go_wp2_with (at_builtin; refine wpList_push rfl _ _ 50 rfl S6 56 _ 4 40 Try.underlying50 info_ent rfl (by decide) _ _ _ rfl ho.out _ rfl rfl (by intro u hu; simp at hu; rcases hu with hu | hu | hu | hu <;> (subst hu; rfl)) (by have := Hkj.out; unfold maxLen; omega) (by have := Hkj.out; omega) hsz.out ?_)
            intro v2 w2 ho2 hg2
            obtain ⟨a2, c2, rfl⟩ := owns_slice ho2
            have Hb2 : Hid (Below S6 V5 w2) := hb5.out.trans (below_own ho.out hg2 (Nat.le_refl _) hsz.out)
            have hxx : own.getD j 0 = x := by rw [← hx.out]; simp [List.getD, hlt]
            have Ho2 : Hid (w2.ownsRow S6 56 4 (.slice a2 (k + (j + 1)) c2) (k + (j + 1)) ((L.take k).flatMap rowE ++ (R (j + 1)).1.flatMap rowE)) := by
              show w2.ownsRow _ _ _ _ _ _
              have e1 : (R (j + 1)).1 = (R j).1 ++ [⟨(k : Int) + 1 + (j : Int), (R j).2 + (pickP (own.getD j 0) 2 : Nat), 1, [111, 119, 110]⟩] := by rw [← hR.out]; rfl
              rw [e1, hxx, hT.out, hq.out, List.flatMap_append]
              simp only [List.flatMap_cons, List.flatMap_nil, List.append_nil]
              exact ho2
            have HT3 : Hid ((R (j + 1)).2 = T + (q : Int)) := by
              show _ = _
              have e1 : (R (j + 1)).2 = (R j).2 + (pickP (own.getD j 0) 2 : Nat) := by rw [← hR.out]; rfl
              rw [e1, hxx, hT.out, hq.out]
            have HkN : Hid (j + 1 ≤ N) := by show _ ≤ _; rw [← hN.out]; omega
            clear ho2 hg2
            go_wp2_with fail
            go_roundw
            case rel => exact ⟨j + 1, T + (q : Int), a2, c2, by go_num, rfl, rfl, by omega, HkN, HT3, Hb2, Ho2⟩
            case measure => simp [intOf]; omega
          · have t2 : decide ((j : Int) < 20) = false := decide_eq_false (by omega)
            have ej : j = min own.length 20 := by omega
            have Hej := Lib.hid ej
            clear ej
            go_wp2_with fail
            go_meet
            exact ⟨a, c, by rw [HMl.out, ← Hej.out], HM.out _ _ _ _ Hej.out ho, hb5⟩
        · have hjj := hj.out
          have ej : j = min own.length 20 := by rw [← hN.out] at hjj; omega
          have Hej := Lib.hid ej
          clear ej hjj
          go_wp2_with fail
          go_meet
          exact ⟨a, c, by rw [HMl.out, ← Hej.out], HM.out _ _ _ _ Hej.out ho, hb5⟩
  case rest =>
    obtain ⟨a7, c7, rfl, Ho7, H7⟩ := hcut
    obtain ⟨V8, hV8⟩ := hide (wc.alloc (.cells (oLog 0 0 (.slice a7 M.length c7)) 52))
    obtain ⟨B8, hB8⟩ := hide wc.heap.size
    have hq8 : V8.heap[B8]? = some (.cells (oLog 0 0 (.slice a7 M.length c7)) 52 (0, 0)) := by rw [← hV8.out, ← hB8.out]; exact hp_at _ _ rfl
    have hb8 : Below wc.heap.size wc V8 := by rw [← hV8.out]; exact (Below.refl _ _).alloc (Nat.le_refl _) _
    have Ho8 := Lib.hid (own_below Ho7.out hb8)
    have H8 : Hid (Below S6 V5 V8) := H7.out.trans (hb8.mono (Nat.le_trans Hv5s.out H7.out.size))
    have Hq8 := Lib.hid hq8
    clear hq8 hb8
    have hL40 := HL40.out
    have KP2 := Lib.hid (fun w' => pick_anyP from' ((L.length : Int) + 1) w' (by omega) (by omega))
    have hp := pickP_lt (c := from') (n := (L.length : Int) + 1) (by omega)
    obtain ⟨p, hpp⟩ := hide (pickP from' ((L.length : Int) + 1))
    rw [hpp.out] at KP2 hp
    have KP3 := Lib.hid (fun w' => pick_anyP many ((L.length : Int) - p + 1) w' (by omega) (by omega))
    have hn := pickP_lt (c := many) (n := (L.length : Int) - p + 1) (by omega)
    obtain ⟨n, hnn⟩ := hide (pickP many ((L.length : Int) - p + 1))
    rw [hnn.out] at KP3 hn
    go_wp2_with fail
    rw [hV8.out, hB8.out]
    refine (KP2.out _).mono ?_
    rintro e w1 ⟨rfl, rfl⟩
    go_wp2_with fail
    refine (KP3.out _).mono ?_
    rintro e w1 ⟨rfl, rfl⟩
    have hpn : p + n ≤ L.length := by omega
    have hpc5 : L.length ≤ c5 := by
      obtain ⟨_, _, e, h, _⟩ := Ho5.out.ents.slice
      injection e with _ _ e3
      rw [e3]; exact h
    have HSh : Hid (Share L M k) := by
      show Share _ _ _
      rw [← hM.out, ← hL.out]
      exact Lg.share steps own (by rw [hL.out]; exact HkL.out)
    have HL8 : Hid (Ents (fun g => S5 ≤ g ∧ g < S6) V8 (.slice a5 L.length c5) L) := by
      show Ents _ _ _ _
      refine (Sl.weak (Plain.good _) Ho5.out.ents (G := fun g => S5 ≤ g ∧ g < S6) (fun g h1 h2 => ⟨h1, by rw [← hS6.out]; exact h2⟩)).frame (Plain.good _) (Agree.belowB H8.out (fun g h => h.2))
    have hpa := ents_ite HL8.out hpn
    obtain ⟨av, hav⟩ := hide (if c5 = p then a5 else Option.map (fun x => x.add (p * 4)) a5)
    rw [hav.out] at hpa
    have HPa := Lib.hid hpa
    have HM8 := Lib.hid (OwnE.ents (S := S6) (w := V8) (v := .slice a7 M.length c7) (l := M) Ho8.out)
    obtain ⟨Y, hY⟩ := hide (ext 0 0 M p (termIn L p) ((L.drop p).take n))
    have hM60 : M.length ≤ 60 := by have := HMl.out; have := HkL.out; omega
    have KE : Hid (∀ w', Below V8.heap.size V8 w' → Calls Try.prog 31 #[vLog 0 0 (.slice a7 M.length c7), .int .i64 p, .int .i64 (termIn L p), .slice av n (c5 - p)] w' fun e w'' => ∃ a c, e = .returned (.tuple #[vLog 0 0 (.slice a Y.es.length c), .int .i64 Y.mat, .int .i64 Y.first, .int .i64 Y.look]) ∧ OwnE w'.heap.size w'' (.slice a Y.es.length c) Y.es ∧ Below w'.heap.size w' w'') := by
      intro w' hb
      have h := wire_extend 0 0 p (termIn L p) _ _ M ((L.drop p).take n) _ _ w' (HM8.out.frame (Plain.good _) (Agree.below hb)) HSh.out.okM (HPa.out.frame (Plain.good _) (Agree.below hb)) (HSh.out.behind hpn) (by omega) (by omega) (by rw [List.length_take]; omega)
      rw [hY.out] at h
      refine h.mono ?_
      rintro e w'' ⟨v', rfl, ho, hb'⟩
      obtain ⟨a, c, rfl⟩ := owns_slice ho
      exact ⟨a, c, rfl, ho, hb'⟩
    have KT : Hid (∀ w', Below V8.heap.size V8 w' → Calls Try.prog 33 #[.slice a5 L.length c5, .int .i64 p] w' fun e w'' => e = .returned (.int .i64 (termIn L p)) ∧ w' = w'') :=
      fun w' hb => law_termOf _ L p _ w' (HL8.out.frame (Plain.good _) (Agree.below hb)) (by omega)
    have Hx := Lib.hid (logKept (w := wc) Hq8.out)
    obtain ⟨Rel, hRel⟩ := hide (fun (b : Nat) (a : Option Addr) (c : Nat) (wx : World) => Boxed V8.heap.size V8 Y.es b a c wx)
    go_upto_region 19 with fail
    go_cut [23, 24, 25, 26] (fun pt m f lk wx => ∃ b a c, pt = .pointer (some ⟨b, 0, none⟩) ∧ m = .int .i64 Y.mat ∧ f = .int .i64 Y.first ∧ lk = .int .i64 Y.look ∧ Rel b a c wx)
    case first =>
      have Hd : Hid (Below V8.heap.size V8 V8.drew) := (Below.refl _ _).drew
      have x0 := Hx.out _ Hd.out
      have c0 := cell_n x0 0 (v := .int .i64 0) rfl
      have c1 := cell_n x0 1 (v := .int .i64 0) rfl
      have c2 := cell_n x0 2 (v := .slice a7 M.length c7) rfl
      clear x0
      obtain ⟨Z, hZ⟩ := hide (Obj.cells #[.int .i64 0, .int .i64 0, .slice none 0 0] 52)
      have Ha : Hid (Below V8.heap.size V8 (V8.alloc (.cells #[.int .i64 0, .int .i64 0, .slice none 0 0] 52)).drew) := ((Below.refl _ _).alloc (Nat.le_refl _) _).drew
      have x5 := Hx.out _ Ha.out
      have f0 := cell_n x5 0 (v := .int .i64 0) rfl
      have f1 := cell_n x5 1 (v := .int .i64 0) rfl
      have f2 := cell_n x5 2 (v := .slice a7 M.length c7) rfl
      clear x5
      have HY : Hid (∀ V3, Below (V8.alloc (.cells #[.int .i64 0, .int .i64 0, .slice none 0 0] 52)).drew.heap.size (V8.alloc (.cells #[.int .i64 0, .int .i64 0, .slice none 0 0] 52)).drew V3 → V3.heap[V8.heap.size]? = some (.cells #[.int .i64 0, .int .i64 0, .slice none 0 0] 52 (0, 0))) := fun V3 hb => (hb.block _ (by show _ < (V8.alloc _).heap.size; simp)).trans (hp_at _ _ rfl)
      have Hz1 : Hid (∀ V3 a c, Below (V8.alloc (.cells #[.int .i64 0, .int .i64 0, .slice none 0 0] 52)).drew.heap.size (V8.alloc (.cells #[.int .i64 0, .int .i64 0, .slice none 0 0] 52)).drew V3 → OwnE (V8.alloc (.cells #[.int .i64 0, .int .i64 0, .slice none 0 0] 52)).drew.heap.size V3 (.slice a Y.es.length c) Y.es → Rel V8.heap.size a c (((V3.setCell ⟨V8.heap.size, 0, none⟩ (.int .i64 0)).setCell ⟨V8.heap.size, 1, none⟩ (.int .i64 0)).setCell ⟨V8.heap.size, 2, none⟩ (.slice a Y.es.length c))) := by
        intro V3 a c hb ho
        rw [← hRel.out]
        exact Boxed.soon rfl hb ho
      have Hz2 : Hid (∀ V3 a c, Below V8.drew.heap.size V8.drew V3 → OwnE V8.drew.heap.size V3 (.slice a Y.es.length c) Y.es → Rel V3.heap.size a c (V3.alloc (.cells #[.int .i64 0, .int .i64 0, .slice a Y.es.length c] 52))) := by
        intro V3 a c hb ho
        rw [← hRel.out]
        exact Boxed.late (V := V8) (Hd.out.trans hb) ho
      have q1 : (p : Int) ≤ (p : Int) + (n : Int) := by omega
      have q2 : (p : Int) + (n : Int) ≤ (c5 : Int) := by omega
      have q3 : (p : Int) + (n : Int) - (p : Int) = (n : Int) := by omega
      have q4 : p ≤ c5 := by omega
      have q6 : ((p : Int) + (n : Int)).toNat - p = n := by omega
      have q5 : IntKind.i64.wrap ((p : Int) + (n : Int)) = (p : Int) + (n : Int) := IntWalk.i64_in _ (by omega)
      have hav2 := hav.out
      go_region_with (first
        | (go_at_call 33; (with_reducible refine (KT.out _ (by first | with_reducible exact Hd.out | with_reducible exact Ha.out)).mono ?_); rintro e V ⟨rfl, rfl⟩)
        | (go_at_call 31; go_loud ((with_reducible refine (KE.out _ (by first | with_reducible exact Hd.out | with_reducible exact Ha.out)).mono ?_); rintro e V3 ⟨a3, k3, rfl, ho3, hb3⟩; have Ho3 := Lib.hid ho3; have Hb3 := Lib.hid hb3; (first | have y3 := HY.out V3 (by with_reducible exact hb3) | skip); (first | (have g0 := free_n y3 0; have g1 := free_n y3 1; have g2 := free_n y3 2; have q0 := cell_n y3 0 (v := .int .i64 0) rfl; have q1 := cell_n y3 1 (v := .int .i64 0) rfl; have q2 := cell_n y3 2 (v := .slice none 0 0) rfl; clear y3) | skip); clear ho3 hb3)))
      all_goals
        go_wp2_with fail
        go_meet
        refine ⟨_, a3, k3, rfl, rfl, rfl, rfl, ?_⟩
        first
        | with_reducible exact Hz1.out _ _ _ Hb3.out Ho3.out
        | with_reducible exact Hz2.out _ _ _ Hb3.out Ho3.out
    case rest =>
      obtain ⟨bx, ax, cx, rfl, rfl, rfl, rfl, hrel⟩ := hcut
      rw [← hRel.out] at hrel
      obtain ⟨hbx, hex, hwx⟩ := hrel
      have Hwx := Lib.hid hwx
      have Hbx := Lib.hid (logKept (w := wc) hbx)
      have Hex : Hid (∀ w', Below wc.heap.size wc w' → Ents (fun g => V8.heap.size ≤ g) w' (.slice ax Y.es.length cx) Y.es) := fun w' h => hex.frame (Plain.good _) (Agree.below h)
      have HLx : Hid (∀ w', Below wc.heap.size wc w' → Ents (fun g => S5 ≤ g ∧ g < S6) w' (.slice a5 L.length c5) L) := fun w' h => HL8.out.frame (Plain.good _) (Agree.below (hwx.trans (h.mono hwx.size)))
      have Hbf : Hid (∀ w', Below wc.heap.size wc w' → Below w.heap.size w w') := fun w' h => Hw.out _ (H8.out.trans ((hwx.trans (h.mono hwx.size)).mono (Nat.le_trans Hv5s.out H8.out.size)))
      have x8 := Hx.out _ hwx
      have k0 := cell_n x8 0 (v := .int .i64 0) rfl
      have k1 := cell_n x8 1 (v := .int .i64 0) rfl
      have k2 := cell_n x8 2 (v := .slice a7 M.length c7) rfl
      have y2 := cell_n hbx 2 (v := .slice ax Y.es.length cx) rfl
      clear x8 hbx hex hwx
      by_cases hpk : p ≤ k
      · obtain ⟨m, hm⟩ : ∃ m : Nat, m = p + n := ⟨_, rfl⟩
        obtain ⟨el, em, hme, hke, hse, hlg⟩ := fits_of HSh.out hpn hpk hm hY.out
        have Hse := Lib.hid hse
        have Hlg := Lib.hid hlg
        obtain ⟨ft, hft⟩ := hide Y.first
        rw [hft.out] at hlg
        rw [el, em, hft.out]
        obtain ⟨Es, hEs⟩ := hide Y.es
        rw [hEs.out] at Hse Hbx Hex y2 hme hke hlg
        have hm60 : m ≤ 60 := by omega
        have u1 : IntKind.i64.wrap ((p : Int) + (n : Int)) = (p : Int) + (n : Int) := IntWalk.i64_in _ (by omega)
        have u2 : ((m : Int) != (p : Int) + (n : Int)) = false := by simp; omega
        have u3 : decide (Es.length < m) = false := decide_eq_false (by omega)
        have u4 : decide (Es.length < k) = false := decide_eq_false (by omega)
        have u5 : decide ((Es.length : Int) < (m : Int)) = false := decide_eq_false (by omega)
        have u6 : decide ((Es.length : Int) < (k : Int)) = false := decide_eq_false (by omega)
        have Hm := Lib.hid hm
        have Hlg := Lib.hid hlg
        have Hme := Lib.hid hme
        clear hse hlg hm el em
        go_wp2_with fail
        clear y2 k0 k1 k2
        go_loopw [28] (fun i wr => ∃ j : Nat, i = .int .i64 j ∧ j ≤ m ∧ Hid (Below wc.heap.size wc wr)) (fun i _ => m - (intOf i).toNat)
        case atStart => exact ⟨0, rfl, Nat.zero_le _, Below.refl _ _⟩
        case round =>
          obtain ⟨j, rfl, hjm, hb⟩ := hrel
          have x0 := Hbx.out _ hb.out
          have c2 := cell_n x0 2 (v := .slice ax Es.length cx) rfl
          clear x0
          by_cases hlt : j < m
          · have hjE : j < Es.length := by have := Hme.out; omega
            have hse := Hse.out j hlt
            rw [List.getElem?_eq_getElem hjE] at hse
            obtain ⟨hjL, hse⟩ := List.getElem?_eq_some_iff.1 hse.symm
            obtain ⟨b, off, us, rfl, _, _, hus, hcs⟩ := (Hex.out _ hb.out).at hjE
            have hus' : us = rowE Es[j] := hus
            subst hus'
            obtain ⟨b', off', us', rfl, _, _, hus2, hcs2⟩ := (HLx.out _ hb.out).at hjL
            have hus2' : us' = rowE L[j] := hus2
            subst hus2'
            rw [hse] at hcs2
            obtain ⟨y, hy⟩ := hide Es[j]
            rw [hy.out] at hcs hcs2
            have d0 := hcs 0 _ rfl
            have d1 := hcs 1 _ rfl
            have d2 := hcs 2 _ rfl
            have d3 := hcs 3 _ rfl
            have g0 := hcs2 0 _ rfl
            have g1 := hcs2 1 _ rfl
            have g2 := hcs2 2 _ rfl
            have g3 := hcs2 3 _ rfl
            clear hcs hcs2 hus hus2 hse
            rw [Nat.add_zero] at d0 g0
            go_wp2_with fail
            go_region
            have hb3 : Hid (Below wc.heap.size wc wr.drew) := hb.out.drew
            go_wp2_with fail
            go_roundw
            case rel => exact ⟨j + 1, by go_num, by omega, hb3⟩
            case measure => simp [intOf]; omega
          · obtain rfl : j = m := by omega
            have hlg := Hlg.out
            rcases hlg with ⟨h1, h2, h3⟩ | ⟨h1, h2⟩
            · subst h2
              rw [← h3] 
              have v1 : decide ((p : Int) + (n : Int) ≤ (k : Int)) = true := decide_eq_true (by have := Hm.out; omega)
              go_wp2_with fail
              go_ret
              exact ⟨rfl, Hbf.out _ hb.out⟩
            · subst h2
              have v1 : decide ((p : Int) + (n : Int) ≤ (k : Int)) = false := decide_eq_false (by have := Hm.out; omega)
              have v2 : ((k : Int) + 1 == 0) = false := beq_eq_false_iff_ne.2 (by omega)
              have v3 : k ≤ 40 := by have := HkL.out; have := HL40.out; omega
              go_wp2_with fail
              go_ret
              exact ⟨rfl, Hbf.out _ hb.out⟩
      · obtain ⟨ee, em, ef, q, el, hq⟩ := off_of HSh.out (by omega : p ≤ L.length) (by omega) hY.out
        rw [em, ef, el]
        rw [ee] at y2
        have KR := Lib.hid (law_returns (.slice a7 M.length c7) (.slice a5 L.length c5) M L p _ _ wc (HM8.out.frame (Plain.good _) (Agree.below Hwx.out)) HSh.out.okM (HLx.out _ (Below.refl _ _)) (by omega) (by omega) (by omega))
        have t6 : ((q : Int) + 1 == 0) = false := beq_eq_false_iff_ne.2 (by omega)
        have t7 : decide (1 ≤ (q : Int) + 1) = true := decide_eq_true (by omega)
        have t8 : decide ((q : Int) + 1 ≤ (p : Int)) = true := decide_eq_true (by omega)
        clear ee em ef el hq
        go_wp2_with fail
        refine KR.out.mono ?_
        rintro e w2 ⟨rfl, hb2⟩
        have Hb2 := Lib.hid hb2
        clear hb2 k0 k1 k2 y2
        go_wp2_with fail
        go_ret
        exact ⟨rfl, Hbf.out _ Hb2.out⟩
end Go.Proofs.Ytlknkhmhdmpdkaa
