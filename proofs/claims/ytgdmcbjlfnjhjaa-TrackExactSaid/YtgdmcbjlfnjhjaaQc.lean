/-
  A leader's log, made by raw steps; the term at a place.
-/
import Derived.Test.YtgdmcbjlfnjhjaaLc
import Derived.Test.YtgdmcbjlfnjhjaaPk
import Derived.Test.YtgdmcbjlfnjhjaaQb
namespace Go.Proofs.Ytgdmcbjlfnjhjaa
open Go.RowKit Wm Mm Lg
set_option linter.unusedVariables false
set_option linter.unusedSimpArgs false

theorem toStr1b (x : Int) (w : World) : (convert 83 9 (.slice (some ⟨w.heap.size, 0, none⟩) 1 1)).run Try.prog (w.alloc (.cells #[.int .u8 x] 5)) =
    .ok (str [UInt8.ofNat x.toNat]) (w.alloc (.cells #[.int .u8 x] 5)) :=
  run_toStr_new w _ _ _ 1 1 [x] rfl Try.underlying83 Try.underlying5 Try.underlying9
theorem Ints_at {w : World} {a : Option Addr} {n c : Nat} {l : List Int} (h : Ints w (.slice a n c) l) (j : Nat) (x : Int) (hx : l[j]? = some x) :
    ∃ b off, a = some ⟨b, off, none⟩ ∧ w.cell? ⟨b, off + j, none⟩ = some (.int .i64 x) := by
  obtain ⟨ao, cap, he, h1, h2⟩ := h
  obtain ⟨b, off, rfl, h3⟩ := h1 (fun e => by rw [e] at hx; simp at hx)
  injection he with e1 e2 e3
  exact ⟨b, off, e1, h3 j x hx⟩
theorem pick_anyP (c n : Int) (w : World) (hn : 0 < n) (hn2 : n ≤ 9223372036854775807) :
    Calls Try.prog 13 #[.int .i64 c, .int .i64 n] w fun e w' => e = .returned (.int .i64 (pickP c n)) ∧ w = w' := pick_any c n w hn hn2

set_option maxHeartbeats 400000 in
theorem law_termOf (lv : Value) (l : List EntP) (p : Nat) (F : Nat → Prop) (w : World) (h : Ents F w lv l) (hp : p ≤ l.length) :
    Calls Try.prog 10 #[lv, .int .i64 p] w fun e w' => e = .returned (.int .i64 (termIn l p)) ∧ w = w' := by
  obtain ⟨ao, cap, rfl, hcap, hmax⟩ := h.slice
  obtain ⟨t, ht⟩ := hide (termIn l p)
  rw [ht.out]
  rcases Nat.eq_zero_or_pos p with h0 | h0
  · subst h0
    obtain rfl : 0 = t := by rw [← ht.out]; rfl
    clear ht h hp hcap
    go_enter Try.func10, Try.ntmps10
    go_wp2_with fail
    go_ret
    exact ⟨rfl, rfl⟩
  · obtain ⟨j, hj⟩ : ∃ j : Nat, j = p - 1 := ⟨_, rfl⟩
    have hjl : j < l.length := by omega
    obtain ⟨b, off, us, rfl, _, _, hus, hcs⟩ := h.at hjl
    have hus' : us = rowE l[j] := hus
    subst hus'
    have d1 := hcs 1 _ rfl
    have e1 : l[j].trm = t := by
      rw [← ht.out]
      unfold termIn
      rw [if_neg (by omega), ← hj, List.getElem?_eq_getElem hjl]
      rfl
    rw [e1] at d1
    have t1 : ((p : Int) == 0) = false := beq_eq_false_iff_ne.2 (by omega)
    have q2 : (p : Int) ≤ 9223372036854775807 := by omega
    clear ht h hp hcap hcs hus e1
    subst hj
    go_enter Try.func10, Try.ntmps10
    go_wp2_with fail
    go_ret
    exact ⟨rfl, rfl⟩

set_option maxHeartbeats 1000000 in
theorem law_grown (sv : Value) (steps : List Int) (w : World) (h : Ints w sv steps) :
    Calls Try.prog 9 #[sv] w fun e w' => ∃ a c, e = .returned (.slice a (leadL steps).length c) ∧ OwnE w.heap.size w' (.slice a (leadL steps).length c) (leadL steps) ∧ Below w.heap.size w w' := by
  obtain ⟨post, HP⟩ := hide (fun (e : Ending) (w' : World) => ∃ a c, e = .returned (.slice a (leadL steps).length c) ∧ OwnE w.heap.size w' (.slice a (leadL steps).length c) (leadL steps) ∧ Below w.heap.size w w')
  rw [HP.out]
  have hI := Lib.hid h
  obtain ⟨ao, cap, rfl, _, hmax⟩ := h
  have hmax2 : steps.length ≤ 9223372036854775807 := hmax
  obtain ⟨B, hB⟩ := hide w.heap.size
  obtain ⟨N, hN⟩ := hide (min steps.length 40)
  obtain ⟨R, hR⟩ := hide (raise 1 3 0 (fun t => [UInt8.ofNat t.toNat]) steps)
  have kc := toStr1b
  clear hmax
  go_enter Try.func9, Try.ntmps9
  go_wp2
  go_loopw [3, 4, 5] (fun v t i wr => ∃ k : Nat, ∃ T : Int, ∃ a c, i = .int .i64 k ∧ t = .int .i64 T ∧ v = .slice a k c ∧ k ≤ 40 ∧ Hid (k ≤ N) ∧ Hid ((R k).2 = T) ∧ Hid (Below B w wr) ∧ Hid (wr.ownsRow B 30 4 (.slice a k c) k ((R k).1.flatMap rowE)))
    (fun _ _ i _ => 41 - (intOf i).toNat)
  case atStart => exact ⟨0, 1, none, 0, rfl, rfl, rfl, by decide, Nat.zero_le _, by rw [← hR.out]; rfl, Below.refl _ _, by rw [← hR.out]; exact World.ownsRow_nil _ _ _ _⟩
  case round =>
    obtain ⟨k, T, a, c, rfl, rfl, rfl, h40, hk, hT, hb, ho⟩ := hrel
    by_cases hlt : k < steps.length
    · by_cases hl2 : k < 40
      · obtain ⟨b, off, rfl, hcell⟩ := Ints_at (hI.out.mono (by rw [hB.out]; exact hb.out)) k steps[k] (by simp [hlt])
        obtain ⟨x, hx⟩ := hide steps[k]
        rw [hx.out] at hcell
        have t2 : decide ((k : Int) < 40) = true := decide_eq_true (by omega)
        have hTr := raise_term (t0 := 1) (m := 3) (b := 0) (d := fun t => [UInt8.ofNat t.toNat]) (cs := steps) (by decide) k
        rw [hR.out, hT.out] at hTr
        have hTl : 1 ≤ T := hTr.1
        have hTh : T ≤ 81 := by have := hTr.2; omega
        clear hTr
        have KP := Lib.hid (fun w' => pick_anyP x 3 w' (by decide) (by decide))
        have hp3 := pickP_lt (c := x) (n := 3) (by decide)
        obtain ⟨q, hq⟩ := hide (pickP x 3)
        rw [hq.out] at KP hp3
        go_wp2_with fail
        refine (KP.out _).mono ?_
        rintro e w1 ⟨rfl, rfl⟩
        have hs1 : 1 ≤ T + (q : Int) := by omega
        have hs2 : T + (q : Int) ≤ 83 := by omega
        have H40 : Hid (k < 40) := hl2
        have hBs : Hid (B ≤ wr.heap.size) := by show _ ≤ _; rw [← hB.out]; exact hb.out.size
        have Ho1 := Lib.hid (ho.out.alloc (.cells #[.int .u8 (T + (q : Int))] 5))
        have Hb1 := Lib.hid (hb.out.alloc hBs.out (.cells #[.int .u8 (T + (q : Int))] 5))
        go_wp2_with (at_builtin; refine wpList_push rfl _ _ 31 rfl B 30 _ 4 40 Try.underlying31 info_ent rfl (by decide) _ _ _ rfl Ho1.out _ (by refine Eq.trans (b := Value.slice (some ⟨wr.heap.size + 1, 0, none⟩) 1 1) rfl ?_; simp) rfl (by intro u hu; simp at hu; rcases hu with hu | hu | hu | hu <;> (subst hu; rfl)) (by have := H40.out; unfold maxLen; omega) (by have := H40.out; omega) (by have := hBs.out; simp; omega) ?_)
        intro v2 w2 ho2 hg2
        obtain ⟨a2, c2, rfl⟩ := owns_slice ho2
        have Hb2 : Hid (Below B w w2) := Hb1.out.trans (below_own Ho1.out hg2 (Nat.le_refl _) (by have := hBs.out; simp; omega))
        have Ho2 : Hid (w2.ownsRow B 30 4 (.slice a2 (k + 1) c2) (k + 1) ((R (k + 1)).1.flatMap rowE)) := by
          show _
          have e : (R (k + 1)).1.flatMap rowE = (R k).1.flatMap rowE ++ rowE ⟨(k : Int) + 1, T + (q : Int), 1, [UInt8.ofNat (T + (q : Int)).toNat]⟩ := by
            have hxx : steps.getD k 0 = x := by rw [← hx.out]; simp [List.getD, hlt]
            have e1 : (R (k + 1)).1 = (R k).1 ++ [⟨0 + 1 + (k : Int), (R k).2 + (pickP (steps.getD k 0) 3 : Nat), 1, [UInt8.ofNat ((R k).2 + (pickP (steps.getD k 0) 3 : Nat)).toNat]⟩] := by rw [← hR.out]; rfl
            rw [e1, hxx, hT.out, hq.out, List.flatMap_append, show (0 : Int) + 1 + k = k + 1 from by omega]
            simp
          rw [e]; exact ho2
        have HT3 : Hid ((R (k + 1)).2 = T + (q : Int)) := by
          show _ = _
          have hxx : steps.getD k 0 = x := by rw [← hx.out]; simp [List.getD, hlt]
          have h3 := hT.out
          have e1 : (R (k + 1)).2 = (R k).2 + (pickP (steps.getD k 0) 3 : Nat) := by rw [← hR.out]; rfl
          rw [e1, hxx, h3, hq.out]
        have HkN : Hid (k + 1 ≤ N) := by show _ ≤ _; rw [← hN.out]; omega
        clear ho2 hg2
        go_wp2_with fail
        go_roundw
        case rel => exact ⟨k + 1, T + (q : Int), a2, c2, by go_num, rfl, rfl, by omega, HkN, HT3, Hb2, Ho2⟩
        case measure => simp [intOf]; omega
      · have t2 : decide ((k : Int) < 40) = false := decide_eq_false (by omega)
        have ek : k = (leadL steps).length := by rw [leadL_len]; omega
        have el : (R k).1 = leadL steps := by rw [← hR.out]; unfold leadL; rw [show k = min steps.length 40 from by omega]
        have HE := Lib.hid ho.out
        rw [el] at HE
        have Hek := Lib.hid ek
        clear ek
        go_wp2_with fail
        rw [← HP.out]
        rw [Hek.out] at HE ⊢
        exact ⟨_, _, rfl, by rw [hB.out]; exact HE.out, by rw [hB.out]; exact hb.out⟩
    · have hkk := hk.out
      have ek : k = (leadL steps).length := by rw [leadL_len]; rw [← hN.out] at hkk; omega
      have el : (R k).1 = leadL steps := by rw [← hR.out]; unfold leadL; rw [show k = min steps.length 40 from by rw [← hN.out] at hkk; omega]
      have HE := Lib.hid ho.out
      rw [el] at HE
      have Hek := Lib.hid ek
      clear ek hkk
      go_wp2_with fail
      rw [← HP.out]
      rw [Hek.out] at HE ⊢
      exact ⟨_, _, rfl, by rw [hB.out]; exact HE.out, by rw [hB.out]; exact hb.out⟩
end Go.Proofs.Ytgdmcbjlfnjhjaa
