/-
  The commit that a leader may make: track.Commit.
-/
import Derived.Test.YtgdmcbjlfnjhjaaTrm
import Derived.Test.YtgdmcbjlfnjhjaaQc
import Derived.Deep.DeepCutAuto
namespace Go.Proofs.Ytgdmcbjlfnjhjaa
open Go.RowKit Wm Mm Lg
set_option linter.unusedVariables false
set_option linter.unusedSimpArgs false

/-- an index of the term, that enough nodes have -/
def okC (c : Conf) (l : List ProgP) (es : List EntP) (term : Int) (j : Nat) : Bool := (termIn es j == term) && quorumB c (haveP l j)
structure CommitIs (c : Conf) (l : List ProgP) (es : List EntP) (term : Int) (o r : Nat) : Prop where
  lo : o ≤ r
  hi : r ≤ es.length
  at_ : o < r → okC c l es term r = true
  no : ∀ j, r < j → j ≤ es.length → okC c l es term j = false
/-- the number in the cell to which a value points -/
def cellNat (w : World) : Value → Nat
  | .pointer (some a) => match w.cell? a with | some x => (intOf x).toNat | none => 0
  | _ => 0
theorem cellNat_at {w : World} {I k : Nat} (h : w.heap[I]? = some (blkI k)) : cellNat w (.pointer (some ⟨I, 0, none⟩)) = k := by
  have := cell_n h 0 (v := .int .i64 k) rfl
  simp [cellNat, this, intOf]
set_option maxHeartbeats 4000000 in
set_option maxRecDepth 100000 in
theorem commit_law (a b d lv ev : Value) (c : Conf) (l : List ProgP) (es : List EntP) (F F' : Nat → Prop) (term : Int) (o : Nat) (w : World) (hc : Config3 w a b d c) (h1 : c.v.length ≤ 1048576) (h2 : c.n.length ≤ 1048576)
    (hp : Prgs F w lv l) (hl : l.length ≤ 1048576) (he : Ents F' w ev es) (hk : Ok 0 es) (hn : es.length ≤ 1048576) (ho : o ≤ es.length) :
    Calls Try.prog 7 #[.agg #[a, b, d], lv, vLog 0 0 ev, .int .i64 term, .int .i64 (o : Int)] w fun e w' => ∃ r : Nat, e = .returned (.int .i64 (r : Int)) ∧ CommitIs c l es term o r ∧ Below w.heap.size w w' := by
  obtain ⟨post, HP⟩ := hide (fun (e : Ending) (w' : World) => ∃ r : Nat, e = .returned (.int .i64 (r : Int)) ∧ CommitIs c l es term o r ∧ Below w.heap.size w w')
  rw [HP.out]
  obtain ⟨W, hW⟩ := hide ((w.alloc (.cells #[a, b, d] 25)).alloc (.cells (oLog 0 0 ev) 33))
  have hx : W.heap[w.heap.size]? = some (.cells #[a, b, d] 25 (0, 0)) := by rw [← hW.out]; exact (hp_past _ _ (by simp)).trans (hp_at _ _ rfl)
  have hy : W.heap[w.heap.size + 1]? = some (.cells (oLog 0 0 ev) 33 (0, 0)) := by rw [← hW.out]; exact hp_at _ _ (by simp)
  have hb : Below w.heap.size w W := by rw [← hW.out]; exact ((Below.refl _ _).alloc (Nat.le_refl _) _).alloc (by simp) _
  have HC : Hid (∀ w', Below W.heap.size W w' → Config3 w' a b d c) := fun w' h => hc.mono (hb.trans (h.mono hb.size))
  have HG : Hid (∀ w', Below W.heap.size W w' → Prgs F w' lv l) := fun w' h => hp.frame (Plain.good _) (Agree.below (hb.trans (h.mono hb.size)))
  have HE : Hid (∀ w', Below W.heap.size W w' → Ents F' w' ev es) := fun w' h => he.frame (Plain.good _) (Agree.below (hb.trans (h.mono hb.size)))
  have HB0 : Hid (∀ w', Below W.heap.size W w' → Below w.heap.size w w') := fun w' h => hb.trans (h.mono hb.size)
  obtain ⟨B, hB⟩ := hide w.heap.size
  rw [hB.out] at hx hy HB0 HP
  have HX : Hid (∀ w', Below W.heap.size W w' → w'.heap[B]? = some (.cells #[a, b, d] 25 (0, 0)) ∧ w'.heap[B + 1]? = some (.cells (oLog 0 0 ev) 33 (0, 0))) := fun w' h => ⟨(h.block _ (lt_of_block hx)).trans hx, (h.block _ (lt_of_block hy)).trans hy⟩
  have HL := wire_last 0 0 ev es F' W (HE.out _ (Below.refl _ _)) hk
  rw [show (0 : Int) + (es.length : Int) = (es.length : Int) from by omega] at HL
  have HL := Lib.hid HL
  have Hk := Lib.hid hk
  have d0 := cell_n hy 0 (v := .int .i64 0) rfl
  have d1 := cell_n hy 1 (v := .int .i64 0) rfl
  have d2 := cell_n hy 2 (v := ev) rfl
  obtain ⟨N, hN⟩ := hide es.length
  rw [hN.out] at HL
  have hNo : o ≤ N := by rw [← hN.out]; exact ho
  have hNn : N ≤ 1048576 := by rw [← hN.out]; exact hn
  obtain ⟨ao, cap, rfl, _, _⟩ := (HE.out _ (Below.refl _ _)).slice
  rw [hN.out] at HE HX HL d2 hW ⊢
  clear hx hy hb hc hp he hk ho hn
  go_enter Try.func7, Try.ntmps7
  go_upto_region 1 with fail
  rw [hW.out, hB.out]
  go_wp2_with fail
  refine HL.out.mono ?_
  rintro e w2 ⟨rfl, hb2⟩
  have Hb2 := Lib.hid hb2
  clear hb2 d0 d1 d2
  go_wp2_with fail
  go_loopw [13] (fun c13 wr => ∃ (I k : Nat), c13 = .pointer (some ⟨I, 0, none⟩) ∧ W.heap.size ≤ I ∧ o ≤ k ∧ k ≤ N ∧ Hid (wr.heap[I]? = some (blkI k)) ∧ Hid (Below W.heap.size W wr) ∧ Hid (∀ j, k < j → j ≤ N → okC c l es term j = false)) (fun c13 wr => cellNat wr c13)
  case atStart =>
    refine ⟨_, N, rfl, Hb2.out.size, hNo, Nat.le_refl _, ?_, ?_, fun j h1 h2 => by omega⟩
    · show _ = _
      exact hp_at _ _ rfl
    · show Below _ _ _
      exact Hb2.out.alloc Hb2.out.size _
  case round =>
    obtain ⟨I, k, rfl, hIW, hok, hkN, HI, HB, HN⟩ := hrel
    by_cases hgt : o < k
    · obtain ⟨m, hm⟩ : ∃ m : Nat, k = m + 1 := ⟨k - 1, by omega⟩
      have hkm : (k : Int) - 1 = ((m : Nat) : Int) := by omega
      have hom : o ≤ m := by omega
      clear hm
      have HT := wire_termAt 0 0 (k : Int) (.slice ao N cap) es F' wr (HE.out _ HB.out) Hk.out (by omega) (by omega)
      rw [termAt0 (by rw [hN.out]; exact hkN)] at HT
      have HT := Lib.hid HT
      have Hokk : Hid (okC c l es term k = ((termIn es k == term) && quorumB c (haveP l k))) := rfl
      obtain ⟨t, ht⟩ := hide (termIn es k)
      rw [ht.out] at HT Hokk
      have cI := cell_n HI.out 0 (v := .int .i64 (k : Int)) rfl
      have x0 := (HX.out _ HB.out).2
      have d0 := cell_n x0 0 (v := .int .i64 0) rfl
      have d1 := cell_n x0 1 (v := .int .i64 0) rfl
      have d2 := cell_n x0 2 (v := .slice ao N cap) rfl
      have t0 : decide (o < k) = true := decide_eq_true hgt
      clear x0
      obtain ⟨V0, hV0⟩ : ∃ V, V = wr := ⟨_, rfl⟩
      subst hV0
      go_wp2_with fail
      refine HT.out.mono ?_
      rintro e w3 ⟨rfl, hb3⟩
      have HB3 := Lib.hid (HB.out.trans (hb3.mono HB.out.size))
      have HI3 : Hid (w3.heap[I]? = some (blkI k)) := (hb3.block I (lt_of_block HI.out)).trans HI.out
      clear hb3 d0 d1 d2 cI
      have cI := cell_n HI3.out 0 (v := .int .i64 (k : Int)) rfl
      cases hz : (t == term) with
      | false =>
        have hz2 : (t != term) = true := by rw [bne, hz]; rfl
        have Hno : Hid (okC c l es term k = false) := by show _ = _; rw [Hokk.out, hz]; rfl
        have hx9 : (w3.alloc (.cells #[.int .i64 (k : Int)] 3)).heap[w3.heap.size]? = some (blkI k) := hp_at _ _ rfl
        have hb9 : Below W.heap.size W (w3.alloc (.cells #[.int .i64 (k : Int)] 3)) := HB3.out.alloc HB3.out.size _
        have hJ : W.heap.size ≤ w3.heap.size := HB3.out.size
        obtain ⟨W9, hW9⟩ := hide (w3.alloc (.cells #[.int .i64 (k : Int)] 3))
        rw [hW9.out] at hx9 hb9
        obtain ⟨J, hJJ⟩ := hide w3.heap.size
        rw [hJJ.out] at hx9 hJ
        have cJ := cell_n hx9 0 (v := .int .i64 (k : Int)) rfl
        have fJ := free_n hx9 0
        have hx10 : (W9.setCell ⟨J, 0, none⟩ (.int .i64 ((m : Nat) : Int))).heap[J]? = some (blkI m) := by rw [heap_setCell]; simp [hx9, storeIn]
        have Hx10 := Lib.hid hx10
        have Hb10 : Hid (Below W.heap.size W (W9.setCell ⟨J, 0, none⟩ (.int .i64 ((m : Nat) : Int)))) := hb9.setCell (p := ⟨J, 0, none⟩) hJ _
        have HJ := Lib.hid hJ
        have HN9 : Hid (∀ j, m < j → j ≤ N → okC c l es term j = false) := by
          show ∀ j, _ → _
          intro j hj1 hj2
          rcases Nat.lt_or_eq_of_le (show k ≤ j by omega) with h | rfl
          · exact HN.out j h hj2
          · exact Hno.out
        clear hx9 hb9 hx10 hJ
        go_upto_region 4 with fail
        rw [hW9.out, hJJ.out]
        clear cI
        go_wp2_with fail
        go_roundw
        case rel => exact ⟨J, m, rfl, HJ.out, by omega, by omega, Hx10, Hb10, HN9⟩
        case measure => rw [cellNat_at Hx10.out, cellNat_at HI.out]; omega
      | true =>
        have hz2 : (t != term) = false := by rw [bne, hz]; rfl
        have Hq1 : Hid (okC c l es term k = quorumB c (haveP l k)) := by show _ = _; rw [Hokk.out, hz]; rfl
        obtain ⟨q, hq⟩ := hide (quorumB c (haveP l k))
        rw [hq.out] at Hq1
        have H0 : Hid (Below W.heap.size W w3.drew) := HB3.out.drew
        have HI0 : Hid (w3.drew.heap[I]? = some (blkI k)) := HI3.out
        have y0 := (HX.out _ H0.out).1
        have a0 : w3.drew.cell? ⟨B, 0, none⟩ = some a := cell_n y0 0 rfl
        have a1 : w3.drew.cell? ⟨B, 1, none⟩ = some b := cell_n y0 1 rfl
        have a2 : w3.drew.cell? ⟨B, 2, none⟩ = some d := cell_n y0 2 rfl
        have HTn := Lib.hid (tnodes_law (k : Int) I lv l F w3.drew HI0.out (HG.out _ H0.out) hl)
        have HQn : Hid (∀ v' w', Below W.heap.size W w' → Ints w' v' (haveP l k) → Calls Try.prog 14 #[.agg #[a, b, d], v'] w' fun e w'' => e = .returned (.bool q) ∧ Below w'.heap.size w' w'') := by
          show ∀ v' w', _ → _ → _
          intro v' w' h hv
          rw [← hq.out]
          exact quorum_law a b d v' c _ w' (HC.out _ h) hv (by omega) (by omega)
        clear y0 cI hz
        go_upto_region 7 with fail
        try dsimp only
        go_region_held3 (fun w' => w'.cell? ⟨B, 0, none⟩ = some a ∧ w'.cell? ⟨B, 1, none⟩ = some b ∧ w'.cell? ⟨B, 2, none⟩ = some d) (first | with_reducible exact ⟨a0, a1, a2⟩ | go_keep) (first
          | (go_at_call 61; (with_reducible refine HTn.out.mono ?_); rintro e w4 ⟨v4, rfl, ho4, hb4⟩; have H4 := Lib.hid (H0.out.trans (hb4.mono H0.out.size)); have HI4 : Hid (w4.heap[I]? = some (blkI k)) := (hb4.block I (lt_of_block HI0.out)).trans HI0.out; have Ho4 := Lib.hid (Ints.of_own ho4); have y4 := (HX.out _ H4.out).1; have a0 : w4.cell? ⟨B, 0, none⟩ = some a := cell_n y4 0 rfl; have a1 : w4.cell? ⟨B, 1, none⟩ = some b := cell_n y4 1 rfl; have a2 : w4.cell? ⟨B, 2, none⟩ = some d := cell_n y4 2 rfl; clear hb4 ho4 y4)
          | (go_at_call 14; (with_reducible refine (HQn.out _ _ H4.out Ho4.out).mono ?_); rintro e w5 ⟨rfl, hb5⟩; have H5 := Lib.hid (H4.out.trans (hb5.mono H4.out.size)); have HI5 : Hid (w5.heap[I]? = some (blkI k)) := (hb5.block I (lt_of_block HI4.out)).trans HI4.out; have y4 := (HX.out _ H5.out).1; have a0 : w5.cell? ⟨B, 0, none⟩ = some a := cell_n y4 0 rfl; have a1 : w5.cell? ⟨B, 1, none⟩ = some b := cell_n y4 1 rfl; have a2 : w5.cell? ⟨B, 2, none⟩ = some d := cell_n y4 2 rfl; clear hb5 y4))
        all_goals
          clear a0 a1 a2
          have cI := cell_n HI5.out 0 (v := .int .i64 (k : Int)) rfl
          cases q with
          | false =>
            have hx9 : (w5.alloc (.cells #[.int .i64 (k : Int)] 3)).heap[w5.heap.size]? = some (blkI k) := hp_at _ _ rfl
            have hb9 : Below W.heap.size W (w5.alloc (.cells #[.int .i64 (k : Int)] 3)) := H5.out.alloc H5.out.size _
            have hJ : W.heap.size ≤ w5.heap.size := H5.out.size
            obtain ⟨W9, hW9⟩ := hide (w5.alloc (.cells #[.int .i64 (k : Int)] 3))
            rw [hW9.out] at hx9 hb9
            obtain ⟨J, hJJ⟩ := hide w5.heap.size
            rw [hJJ.out] at hx9 hJ
            have cJ := cell_n hx9 0 (v := .int .i64 (k : Int)) rfl
            have fJ := free_n hx9 0
            have hx10 : (W9.setCell ⟨J, 0, none⟩ (.int .i64 ((m : Nat) : Int))).heap[J]? = some (blkI m) := by rw [heap_setCell]; simp [hx9, storeIn]
            have Hx10 := Lib.hid hx10
            have Hb10 : Hid (Below W.heap.size W (W9.setCell ⟨J, 0, none⟩ (.int .i64 ((m : Nat) : Int)))) := hb9.setCell (p := ⟨J, 0, none⟩) hJ _
            have HJ := Lib.hid hJ
            have HN9 : Hid (∀ j, m < j → j ≤ N → okC c l es term j = false) := by
              show ∀ j, _ → _
              intro j hj1 hj2
              rcases Nat.lt_or_eq_of_le (show k ≤ j by omega) with h | rfl
              · exact HN.out j h hj2
              · exact Hq1.out
            clear hx9 hb9 hx10 hJ
            go_upto_region 4 with fail
            rw [hW9.out, hJJ.out]
            clear cI
            go_wp2_with fail
            go_roundw
            case rel => exact ⟨J, m, rfl, HJ.out, by omega, by omega, Hx10, Hb10, HN9⟩
            case measure => rw [cellNat_at Hx10.out, cellNat_at HI.out]; omega
          | true =>
            have Hp : Hid (post (.returned (.int .i64 (k : Int))) w5) := by
              show post _ _
              rw [← HP.out]
              exact ⟨k, rfl, ⟨by omega, by rw [hN.out]; exact hkN, fun _ => Hq1.out, fun j h1 h2 => HN.out j h1 (by rw [← hN.out]; exact h2)⟩, HB0.out _ H5.out⟩
            go_wp2_with fail
            first | exact Hp.out | (go_ret; exact Hp.out)
    · have hko : k = o := by omega
      subst hko
      have Hp : Hid (post (.returned (.int .i64 (k : Int))) wr) := by
        show post _ _
        rw [← HP.out]
        exact ⟨k, rfl, ⟨Nat.le_refl _, by rw [hN.out]; exact hkN, fun h => by omega, fun j h1 h2 => HN.out j h1 (by rw [← hN.out]; exact h2)⟩, HB0.out _ HB.out⟩
      have cI := cell_n HI.out 0 (v := .int .i64 (k : Int)) rfl
      clear hgt
      go_wp2_with fail
      first | exact Hp.out | (go_ret; exact Hp.out)
end Go.Proofs.Ytgdmcbjlfnjhjaa
