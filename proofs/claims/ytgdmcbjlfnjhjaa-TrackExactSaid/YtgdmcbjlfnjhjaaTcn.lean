/-
  The commit that a leader may make, behind any base: track.Commit. The commit that a leader may make: ref.Commit.
-/
import Derived.Test.YtgdmcbjlfnjhjaaTrc
import Derived.Test.YtgdmcbjlfnjhjaaTrj
import Derived.Test.YtgdmcbjlfnjhjaaRb
namespace Go.Proofs.Ytgdmcbjlfnjhjaa
open Go.RowKit Wm Mm Lg
set_option linter.unusedVariables false
set_option linter.unusedSimpArgs false

/-- an entry of the term, whose index enough nodes have -/
def okB (c : Conf) (l : List ProgP) (es : List EntP) (base term : Int) (j : Nat) : Bool := (termIn es j == term) && quorumB c (haveP l (base + (j : Int)))
/-- the last of which something is so, up to a number -/
def topOk (f : Nat → Bool) : Nat → Nat
  | 0 => 0
  | n + 1 => if f (n + 1) = true then n + 1 else topOk f n
def commitP (c : Conf) (l : List ProgP) (es : List EntP) (base term : Int) : Int := base + (topOk (okB c l es base term) es.length : Nat)
theorem termAtB {base bt : Int} {l : List EntP} {p : Nat} (h0 : 0 < p) (h : p ≤ l.length) : termAt base bt l (base + (p : Int)) = (termIn l p, 0) := by
  unfold termAt termIn
  rw [if_neg (by omega), if_neg (by omega), if_neg (by omega), if_neg (by omega)]
  have e : (base + (p : Int) - base - 1).toNat = p - 1 := by omega
  rw [e, List.getElem?_eq_getElem (by omega : p - 1 < l.length)]
  rfl
theorem cellNat_i {w : World} {I : Nat} {x : Int} (h : w.heap[I]? = some (blkI x)) : cellNat w (.pointer (some ⟨I, 0, none⟩)) = x.toNat := by
  have := cell_n h 0 (v := .int .i64 x) rfl
  simp [cellNat, this, intOf]
set_option maxHeartbeats 4000000 in
set_option maxRecDepth 100000 in
theorem commitB_law (a b d lv ev : Value) (c : Conf) (l : List ProgP) (es : List EntP) (F F' : Nat → Prop) (base bt term : Int) (w : World) (hc : Config3 w a b d c) (h1 : c.v.length ≤ 1048576) (h2 : c.n.length ≤ 1048576)
    (hp : Prgs F w lv l) (hl : l.length ≤ 1048576) (he : Ents F' w ev es) (hk : Ok base es) :
    Calls Try.prog 7 #[.agg #[a, b, d], lv, vLog base bt ev, .int .i64 term, .int .i64 base] w fun e w' => e = .returned (.int .i64 (commitP c l es base term)) ∧ Below w.heap.size w w' := by
  obtain ⟨res, hres⟩ := hide (commitP c l es base term)
  rw [hres.out]
  obtain ⟨post, HP⟩ := hide (fun (e : Ending) (w' : World) => e = .returned (.int .i64 res) ∧ Below w.heap.size w w')
  rw [HP.out]
  obtain ⟨W, hW⟩ := hide ((w.alloc (.cells #[a, b, d] 25)).alloc (.cells (oLog base bt ev) 33))
  have hx : W.heap[w.heap.size]? = some (.cells #[a, b, d] 25 (0, 0)) := by rw [← hW.out]; exact (hp_past _ _ (by simp)).trans (hp_at _ _ rfl)
  have hy : W.heap[w.heap.size + 1]? = some (.cells (oLog base bt ev) 33 (0, 0)) := by rw [← hW.out]; exact hp_at _ _ (by simp)
  have hb : Below w.heap.size w W := by rw [← hW.out]; exact ((Below.refl _ _).alloc (Nat.le_refl _) _).alloc (by simp) _
  have HC : Hid (∀ w', Below W.heap.size W w' → Config3 w' a b d c) := fun w' h => hc.mono (hb.trans (h.mono hb.size))
  have HG : Hid (∀ w', Below W.heap.size W w' → Prgs F w' lv l) := fun w' h => hp.frame (Plain.good _) (Agree.below (hb.trans (h.mono hb.size)))
  have HE : Hid (∀ w', Below W.heap.size W w' → Ents F' w' ev es) := fun w' h => he.frame (Plain.good _) (Agree.below (hb.trans (h.mono hb.size)))
  have HB0 : Hid (∀ w', Below W.heap.size W w' → Below w.heap.size w w') := fun w' h => hb.trans (h.mono hb.size)
  obtain ⟨B, hB⟩ := hide w.heap.size
  rw [hB.out] at hx hy HB0 HP
  have HX : Hid (∀ w', Below W.heap.size W w' → w'.heap[B]? = some (.cells #[a, b, d] 25 (0, 0)) ∧ w'.heap[B + 1]? = some (.cells (oLog base bt ev) 33 (0, 0))) := fun w' h => ⟨(h.block _ (lt_of_block hx)).trans hx, (h.block _ (lt_of_block hy)).trans hy⟩
  have HL := wire_last base bt ev es F' W (HE.out _ (Below.refl _ _)) hk
  have hb0 := hk.b0
  have hb1 := hk.b1
  have hbn := hk.n
  have Hk := Lib.hid hk
  have d0 := cell_n hy 0 (v := .int .i64 base) rfl
  have d1 := cell_n hy 1 (v := .int .i64 bt) rfl
  have d2 := cell_n hy 2 (v := ev) rfl
  obtain ⟨last, hlast⟩ := hide (base + (es.length : Int))
  rw [hlast.out] at HL
  have HL := Lib.hid HL
  obtain ⟨N, hN⟩ := hide es.length
  have hNn : N ≤ 2199023255552 := by rw [← hN.out]; exact hbn
  have hlN : Hid (last = base + (N : Int)) := by show _ = _; rw [← hlast.out, hN.out]
  have Hres : Hid (res = base + (topOk (okB c l es base term) N : Nat)) := by show _ = _; rw [← hres.out, ← hN.out]; rfl
  have Hb01 := Lib.hid (And.intro hb0 hb1)
  obtain ⟨ao, cap, rfl, _, _⟩ := (HE.out _ (Below.refl _ _)).slice
  rw [hN.out] at HE HX HL d2 hW ⊢
  clear hx hy hb hc hp he hk hb0 hb1 hbn
  go_enter Try.func7, Try.ntmps7
  go_upto_region 1 with fail
  rw [hW.out, hB.out]
  go_wp2_with fail
  refine HL.out.mono ?_
  rintro e w2 ⟨rfl, hb2⟩
  have Hb2 := Lib.hid hb2
  clear hb2 d0 d1 d2
  go_wp2_with fail
  go_loopw [13] (fun c13 wr => ∃ (I k : Nat) (i : Int), c13 = .pointer (some ⟨I, 0, none⟩) ∧ W.heap.size ≤ I ∧ Hid (i = base + (k : Int)) ∧ k ≤ N ∧ Hid (wr.heap[I]? = some (blkI i)) ∧ Hid (Below W.heap.size W wr) ∧ Hid (topOk (okB c l es base term) N = topOk (okB c l es base term) k)) (fun c13 wr => cellNat wr c13)
  case atStart =>
    refine ⟨_, N, last, rfl, Hb2.out.size, hlN, Nat.le_refl _, ?_, ?_, rfl⟩
    · show _ = _
      exact hp_at _ _ rfl
    · show Below _ _ _
      exact Hb2.out.alloc Hb2.out.size _
  case round =>
    obtain ⟨I, k, i, rfl, hIW, Hi, hkN, HI, HB, HN⟩ := hrel
    have hi9 := Hi.out
    have hb9 := Hb01.out
    have hi1 : -4398046511104 ≤ i := by omega
    have hi2 : i ≤ 4398046511104 := by omega
    by_cases hgt : base < i
    · obtain ⟨m, hm⟩ : ∃ m : Nat, k = m + 1 := ⟨k - 1, by omega⟩
      have hkm : Hid (i - 1 = base + ((m : Nat) : Int)) := by show _ = _; omega
      have hmN : m ≤ N := by omega
      have hpos : Hid ((i - 1).toNat < i.toNat) := by show _ < _; omega
      have HT := wire_termAt base bt i (.slice ao N cap) es F' wr (HE.out _ HB.out) Hk.out hi1 hi2
      rw [Hi.out, termAtB (by omega) (by rw [hN.out]; exact hkN)] at HT
      rw [← Hi.out] at HT
      have HT := Lib.hid HT
      have Hokk : Hid (okB c l es base term k = ((termIn es k == term) && quorumB c (haveP l i))) := by show _ = _; rw [Hi.out]; rfl
      have Htop : Hid (topOk (okB c l es base term) k = if okB c l es base term k = true then k else topOk (okB c l es base term) m) := by show _ = _; rw [hm]; rfl
      clear hm hi9 hb9
      obtain ⟨t, ht⟩ := hide (termIn es k)
      rw [ht.out] at HT Hokk
      have cI := cell_n HI.out 0 (v := .int .i64 i) rfl
      have x0 := (HX.out _ HB.out).2
      have d0 := cell_n x0 0 (v := .int .i64 base) rfl
      have d1 := cell_n x0 1 (v := .int .i64 bt) rfl
      have d2 := cell_n x0 2 (v := .slice ao N cap) rfl
      have t0 : decide (base < i) = true := decide_eq_true hgt
      clear x0
      obtain ⟨V0, hV0⟩ : ∃ V, V = wr := ⟨_, rfl⟩
      subst hV0
      go_wp2_with fail
      refine HT.out.mono ?_
      rintro e w3 ⟨rfl, hb3⟩
      have HB3 := Lib.hid (HB.out.trans (hb3.mono HB.out.size))
      have HI3 : Hid (w3.heap[I]? = some (blkI i)) := (hb3.block I (lt_of_block HI.out)).trans HI.out
      clear hb3 d0 d1 d2 cI
      have cI := cell_n HI3.out 0 (v := .int .i64 i) rfl
      cases hz : (t == term) with
      | false =>
        have hz2 : (t != term) = true := by rw [bne, hz]; rfl
        have Hno : Hid (okB c l es base term k = false) := by show _ = _; rw [Hokk.out, hz]; rfl
        have hx9 : (w3.alloc (.cells #[.int .i64 i] 3)).heap[w3.heap.size]? = some (blkI i) := hp_at _ _ rfl
        have hb9 : Below W.heap.size W (w3.alloc (.cells #[.int .i64 i] 3)) := HB3.out.alloc HB3.out.size _
        have hJ : W.heap.size ≤ w3.heap.size := HB3.out.size
        obtain ⟨W9, hW9⟩ := hide (w3.alloc (.cells #[.int .i64 i] 3))
        rw [hW9.out] at hx9 hb9
        obtain ⟨J, hJJ⟩ := hide w3.heap.size
        rw [hJJ.out] at hx9 hJ
        have cJ := cell_n hx9 0 (v := .int .i64 i) rfl
        have fJ := free_n hx9 0
        have hx10 : (W9.setCell ⟨J, 0, none⟩ (.int .i64 (i - 1))).heap[J]? = some (blkI (i - 1)) := by rw [heap_setCell]; simp [hx9, storeIn]
        have Hx10 := Lib.hid hx10
        have Hb10 : Hid (Below W.heap.size W (W9.setCell ⟨J, 0, none⟩ (.int .i64 (i - 1)))) := hb9.setCell (p := ⟨J, 0, none⟩) hJ _
        have HJ := Lib.hid hJ
        have HN9 : Hid (topOk (okB c l es base term) N = topOk (okB c l es base term) m) := by show _ = _; rw [HN.out, Htop.out, Hno.out]; rfl
        clear hx9 hb9 hx10 hJ
        go_upto_region 4 with fail
        rw [hW9.out, hJJ.out]
        clear cI
        go_wp2_with fail
        go_roundw
        case rel => exact ⟨J, m, i - 1, rfl, HJ.out, hkm, hmN, Hx10, Hb10, HN9⟩
        case measure => rw [cellNat_i Hx10.out, cellNat_i HI.out]; exact hpos.out
      | true =>
        have hz2 : (t != term) = false := by rw [bne, hz]; rfl
        have Hq1 : Hid (okB c l es base term k = quorumB c (haveP l i)) := by show _ = _; rw [Hokk.out, hz]; rfl
        obtain ⟨q, hq⟩ := hide (quorumB c (haveP l i))
        rw [hq.out] at Hq1
        have H0 : Hid (Below W.heap.size W w3.drew) := HB3.out.drew
        have HI0 : Hid (w3.drew.heap[I]? = some (blkI i)) := HI3.out
        have y0 := (HX.out _ H0.out).1
        have a0 : w3.drew.cell? ⟨B, 0, none⟩ = some a := cell_n y0 0 rfl
        have a1 : w3.drew.cell? ⟨B, 1, none⟩ = some b := cell_n y0 1 rfl
        have a2 : w3.drew.cell? ⟨B, 2, none⟩ = some d := cell_n y0 2 rfl
        have HTn := Lib.hid (tnodes_law i I lv l F w3.drew HI0.out (HG.out _ H0.out) hl)
        have HQn : Hid (∀ v' w', Below W.heap.size W w' → Ints w' v' (haveP l i) → Calls Try.prog 14 #[.agg #[a, b, d], v'] w' fun e w'' => e = .returned (.bool q) ∧ Below w'.heap.size w' w'') := by
          show ∀ v' w', _ → _ → _
          intro v' w' h hv
          rw [← hq.out]
          exact quorum_law a b d v' c _ w' (HC.out _ h) hv (by omega) (by omega)
        clear y0 cI hz
        go_upto_region 7 with fail
        try dsimp only
        go_region_held3 (fun w' => w'.cell? ⟨B, 0, none⟩ = some a ∧ w'.cell? ⟨B, 1, none⟩ = some b ∧ w'.cell? ⟨B, 2, none⟩ = some d) (first | with_reducible exact ⟨a0, a1, a2⟩ | go_keep) (first
          | (go_at_call 61; (with_reducible refine HTn.out.mono ?_); rintro e w4 ⟨v4, rfl, ho4, hb4⟩; have H4 := Lib.hid (H0.out.trans (hb4.mono H0.out.size)); have HI4 : Hid (w4.heap[I]? = some (blkI i)) := (hb4.block I (lt_of_block HI0.out)).trans HI0.out; have Ho4 := Lib.hid (Ints.of_own ho4); have y4 := (HX.out _ H4.out).1; have a0 : w4.cell? ⟨B, 0, none⟩ = some a := cell_n y4 0 rfl; have a1 : w4.cell? ⟨B, 1, none⟩ = some b := cell_n y4 1 rfl; have a2 : w4.cell? ⟨B, 2, none⟩ = some d := cell_n y4 2 rfl; clear hb4 ho4 y4)
          | (go_at_call 14; (with_reducible refine (HQn.out _ _ H4.out Ho4.out).mono ?_); rintro e w5 ⟨rfl, hb5⟩; have H5 := Lib.hid (H4.out.trans (hb5.mono H4.out.size)); have HI5 : Hid (w5.heap[I]? = some (blkI i)) := (hb5.block I (lt_of_block HI4.out)).trans HI4.out; have y4 := (HX.out _ H5.out).1; have a0 : w5.cell? ⟨B, 0, none⟩ = some a := cell_n y4 0 rfl; have a1 : w5.cell? ⟨B, 1, none⟩ = some b := cell_n y4 1 rfl; have a2 : w5.cell? ⟨B, 2, none⟩ = some d := cell_n y4 2 rfl; clear hb5 y4))
        all_goals
          clear a0 a1 a2
          have cI := cell_n HI5.out 0 (v := .int .i64 i) rfl
          cases q with
          | false =>
            have hx9 : (w5.alloc (.cells #[.int .i64 i] 3)).heap[w5.heap.size]? = some (blkI i) := hp_at _ _ rfl
            have hb9 : Below W.heap.size W (w5.alloc (.cells #[.int .i64 i] 3)) := H5.out.alloc H5.out.size _
            have hJ : W.heap.size ≤ w5.heap.size := H5.out.size
            obtain ⟨W9, hW9⟩ := hide (w5.alloc (.cells #[.int .i64 i] 3))
            rw [hW9.out] at hx9 hb9
            obtain ⟨J, hJJ⟩ := hide w5.heap.size
            rw [hJJ.out] at hx9 hJ
            have cJ := cell_n hx9 0 (v := .int .i64 i) rfl
            have fJ := free_n hx9 0
            have hx10 : (W9.setCell ⟨J, 0, none⟩ (.int .i64 (i - 1))).heap[J]? = some (blkI (i - 1)) := by rw [heap_setCell]; simp [hx9, storeIn]
            have Hx10 := Lib.hid hx10
            have Hb10 : Hid (Below W.heap.size W (W9.setCell ⟨J, 0, none⟩ (.int .i64 (i - 1)))) := hb9.setCell (p := ⟨J, 0, none⟩) hJ _
            have HJ := Lib.hid hJ
            have HN9 : Hid (topOk (okB c l es base term) N = topOk (okB c l es base term) m) := by show _ = _; rw [HN.out, Htop.out, Hq1.out]; rfl
            clear hx9 hb9 hx10 hJ
            go_upto_region 4 with fail
            rw [hW9.out, hJJ.out]
            clear cI
            go_wp2_with fail
            go_roundw
            case rel => exact ⟨J, m, i - 1, rfl, HJ.out, hkm, hmN, Hx10, Hb10, HN9⟩
            case measure => rw [cellNat_i Hx10.out, cellNat_i HI.out]; exact hpos.out
          | true =>
            have Hp : Hid (post (.returned (.int .i64 i)) w5) := by
              show post _ _
              rw [← HP.out]
              exact ⟨by rw [Hres.out, HN.out, Htop.out, Hq1.out, if_pos rfl, ← Hi.out], HB0.out _ H5.out⟩
            go_wp2_with fail
            first | exact Hp.out | (go_ret; exact Hp.out)
    · have hk0 : k = 0 := by omega
      have hib : base = i := by omega
      have Hp : Hid (post (.returned (.int .i64 i)) wr) := by
        show post _ _
        rw [← HP.out]
        exact ⟨by rw [Hres.out, HN.out, hk0]; show Ending.returned (Value.int .i64 i) = Ending.returned (Value.int .i64 (base + ((0 : Nat) : Int))); rw [← hib]; simp, HB0.out _ HB.out⟩
      have cI := cell_n HI.out 0 (v := .int .i64 i) rfl
      clear hi9 hb9 hgt hk0
      subst hib
      go_wp2_with fail
      first | exact Hp.out | (go_ret; exact Hp.out)
end Go.Proofs.Ytgdmcbjlfnjhjaa

namespace Go.Proofs.Ytgdmcbjlfnjhjaa
open Go.RowKit Wm Mm Lg
set_option linter.unusedVariables false
set_option linter.unusedSimpArgs false

set_option maxHeartbeats 4000000 in
theorem refCommit_law (a b d lv ev : Value) (c : Conf) (l : List ProgP) (es : List EntP) (F F' : Nat → Prop) (base bt term : Int) (w : World) (hc : Config3 w a b d c) (h1 : c.v.length ≤ 1048576) (h2 : c.n.length ≤ 1048576)
    (hp : Prgs F w lv l) (hl : l.length ≤ 1048576) (he : Ents F' w ev es) (hk : Ok base es) :
    Calls Try.prog 30 #[.agg #[a, b, d], lv, vLog base bt ev, .int .i64 term, .int .i64 base] w fun e w' => e = .returned (.int .i64 (commitP c l es base term)) ∧ Below w.heap.size w w' := by
  obtain ⟨res, hres⟩ := hide (commitP c l es base term)
  rw [hres.out]
  obtain ⟨post, HP⟩ := hide (fun (e : Ending) (w' : World) => e = .returned (.int .i64 res) ∧ Below w.heap.size w w')
  rw [HP.out]
  obtain ⟨lo, lcap, rfl, _, _⟩ := hp.slice
  obtain ⟨eo, ecap, rfl, _, _⟩ := he.slice
  obtain ⟨W, hW⟩ := hide ((w.alloc (.cells #[a, b, d] 25)).alloc (.cells (oLog base bt (.slice eo es.length ecap)) 33))
  have hx : W.heap[w.heap.size]? = some (.cells #[a, b, d] 25 (0, 0)) := by rw [← hW.out]; exact (hp_past _ _ (by simp)).trans (hp_at _ _ rfl)
  have hy : W.heap[w.heap.size + 1]? = some (.cells (oLog base bt (.slice eo es.length ecap)) 33 (0, 0)) := by rw [← hW.out]; exact hp_at _ _ (by simp)
  have hb : Below w.heap.size w W := by rw [← hW.out]; exact ((Below.refl _ _).alloc (Nat.le_refl _) _).alloc (by simp) _
  obtain ⟨S, hS⟩ := hide W.heap.size
  have HC : Hid (∀ w', Below S W w' → Config3 w' a b d c) := by show ∀ w', _ → _; rw [← hS.out]; exact fun w' h => hc.mono (hb.trans (h.mono hb.size))
  have HG : Hid (∀ w', Below S W w' → Prgs F w' (.slice lo l.length lcap) l) := by show ∀ w', _ → _; rw [← hS.out]; exact fun w' h => hp.frame (Plain.good _) (Agree.below (hb.trans (h.mono hb.size)))
  have HE : Hid (∀ w', Below S W w' → Ents F' w' (.slice eo es.length ecap) es) := by show ∀ w', _ → _; rw [← hS.out]; exact fun w' h => he.frame (Plain.good _) (Agree.below (hb.trans (h.mono hb.size)))
  have Hp : Hid (∀ w', Below S W w' → post (.returned (.int .i64 res)) w') := by show ∀ w', _ → _; rw [← hS.out, ← HP.out]; exact fun w' h => ⟨rfl, hb.trans (h.mono hb.size)⟩
  obtain ⟨B, hB⟩ := hide w.heap.size
  rw [hB.out] at hx hy
  have HX : Hid (∀ w', Below S W w' → w'.heap[B]? = some (.cells #[a, b, d] 25 (0, 0)) ∧ w'.heap[B + 1]? = some (.cells (oLog base bt (.slice eo es.length ecap)) 33 (0, 0))) := by show ∀ w', _ → _; rw [← hS.out]; exact fun w' h => ⟨(h.block _ (lt_of_block hx)).trans hx, (h.block _ (lt_of_block hy)).trans hy⟩
  have HSW : Hid (S ≤ W.heap.size) := by show _ ≤ _; rw [← hS.out]; exact Nat.le_refl _
  have hb0 := hk.b0
  have hb1 := hk.b1
  have hbn := hk.n
  have Hk := Lib.hid hk
  obtain ⟨N, hN⟩ := hide es.length
  rw [hN.out] at HE HX hbn hW ⊢
  obtain ⟨last, hlast⟩ := hide (base + (N : Int))
  have Hres : Hid (res = base + (topOk (okB c l es base term) N : Nat)) := by show _ = _; rw [← hres.out, ← hN.out]; rfl
  have Hb01 := Lib.hid (And.intro hb0 (And.intro hb1 hbn))
  have hbr : -4398046511104 ≤ base := by omega
  have hbs : base ≤ 4398046511104 := by omega
  clear hx hy hb hc hp he hk hb0 hb1 hbn
  go_enter Try.func30, Try.ntmps30
  go_upto_region 1 with fail
  rw [hW.out, hB.out]
  go_wp2_with fail
  go_loopw [12, 11] (fun i9 b9 wr => ∃ (k : Nat) (i x : Int), i9 = .int .i64 i ∧ b9 = .int .i64 x ∧ Hid (i = base + 1 + (k : Int)) ∧ k ≤ N ∧ Hid (x = base + (topOk (okB c l es base term) k : Nat)) ∧ Hid (Below S W wr)) (fun i _ _ => (last + 1 - intOf i).toNat)
  case atStart => exact ⟨0, base + 1, base, rfl, rfl, by show _ = _; simp, Nat.zero_le _, by show _ = _; simp [topOk], Below.refl _ _⟩
  case round =>
    obtain ⟨k, i, x, rfl, rfl, Hi, hkN, Hx, Hb⟩ := hrel
    have h9 := Hb01.out
    have h8 := Hi.out
    have hi1 : -4398046511104 ≤ i := by omega
    have hi2 : i ≤ 4398046511104 := by omega
    have HU0 : Hid (∀ w', Below wr.heap.size wr w' → Below S W w') := fun w' h => Hb.out.trans (h.mono (Nat.le_trans HSW.out Hb.out.size))
    have KE := ref_end base bt (.slice eo N ecap) es F' wr (HE.out _ Hb.out) Hk.out
    rw [hN.out, hlast.out] at KE
    have KE := Lib.hid KE
    have x0 := (HX.out _ Hb.out).2
    have d0 := cell_n x0 0 (v := .int .i64 base) rfl
    have d1 := cell_n x0 1 (v := .int .i64 bt) rfl
    have d2 := cell_n x0 2 (v := .slice eo N ecap) rfl
    clear x0 h9 h8
    obtain ⟨V0, hV0⟩ : ∃ V, V = wr := ⟨_, rfl⟩
    subst hV0
    go_wp2_with fail
    refine KE.out.mono ?_
    rintro e w3 ⟨rfl, hb3⟩
    have Hb3 := Lib.hid (HU0.out _ hb3)
    clear hb3 d0 d1 d2
    dsimp only
    have h9 := Hb01.out
    have h8 := Hi.out
    have h7 := hlast.out
    by_cases hle : i ≤ last
    · have hkN : k + 1 ≤ N := by omega
      have Hi1 : Hid (i + 1 = base + 1 + ((k + 1 : Nat) : Int)) := by show _ = _; omega
      have Hi0 : Hid (i = base + ((k + 1 : Nat) : Int)) := by show _ = _; omega
      have Hme : Hid ((last + 1 - (i + 1)).toNat < (last + 1 - i).toNat) := by show _ < _; omega
      have HU1 : Hid (∀ w', Below w3.heap.size w3 w' → Below S W w') := fun w' h => Hb3.out.trans (h.mono (Nat.le_trans HSW.out Hb3.out.size))
      have HT := ref_termAt base bt i (.slice eo N ecap) es F' w3 (HE.out _ Hb3.out) Hk.out hi1 hi2
      rw [Hi0.out, termAtB (by omega) (by rw [hN.out]; exact hkN)] at HT
      rw [← Hi0.out] at HT
      have HT := Lib.hid HT
      have Htop : Hid (topOk (okB c l es base term) (k + 1) = if ((termIn es (k + 1) == term) && quorumB c (haveP l i)) = true then k + 1 else topOk (okB c l es base term) k) := by show _ = _; rw [Hi0.out]; rfl
      obtain ⟨t, ht⟩ := hide (termIn es (k + 1))
      rw [ht.out] at HT Htop
      have x0 := (HX.out _ Hb3.out).2
      have d0 := cell_n x0 0 (v := .int .i64 base) rfl
      have d1 := cell_n x0 1 (v := .int .i64 bt) rfl
      have d2 := cell_n x0 2 (v := .slice eo N ecap) rfl
      have t0 : decide (i ≤ last) = true := decide_eq_true hle
      clear x0 h9 h8 h7 hle
      go_upto_region 5 with fail
      go_wp2_with fail
      refine HT.out.mono ?_
      rintro e w4 ⟨rfl, hb4⟩
      have Hb4 := Lib.hid (HU1.out _ hb4)
      have HU : Hid (∀ w', Below w4.heap.size w4 w' → Below S W w') := fun w' h => Hb4.out.trans (h.mono (Nat.le_trans HSW.out Hb4.out.size))
      clear hb4 d0 d1 d2 t0
      dsimp only
      obtain ⟨V, hV⟩ : ∃ V, V = w4 := ⟨_, rfl⟩
      subst hV
      go_wp2_with fail
      go_loopw [15, 16] (fun v15 i16 wr => ∃ j : Nat, i16 = .int .i64 (j : Int) ∧ j ≤ l.length ∧ Hid (OwnJ V.heap.size wr v15 (haveP (l.take j) i)) ∧ Hid (Below V.heap.size V wr)) (fun _ i _ => l.length - (intOf i).toNat)
      case atStart => exact ⟨0, rfl, Nat.zero_le _, World.ownsRow_nil _ _ _ _, Below.refl _ _⟩
      case round =>
        obtain ⟨j, rfl, hj, Ho, Hbj⟩ := hrel
        by_cases hjl : j < l.length
        · obtain ⟨b', off, rfl, m0, m1, m2, m3, m4, m5⟩ := (HG.out _ (HU.out _ Hbj.out)).six hjl
          have Hs := Lib.hid (haveP_snoc hjl i)
          have hlen := haveP_len (l.take j) i
          rw [List.length_take] at hlen
          obtain ⟨p, hp⟩ := hide l[j]
          rw [hp.out] at m0 m1 Hs
          obtain ⟨L, hL⟩ := hide (haveP (l.take j) i)
          rw [hL.out] at Ho Hs hlen
          obtain ⟨z, hz⟩ := hide (decide (i ≤ p.mtch))
          rw [hz.out] at Hs
          have e1 := hz.out
          have HSz : Hid (V.heap.size ≤ wr.heap.size) := Hbj.out.size
          have hj1 : j + 1 ≤ 1048577 := by omega
          clear m2 m3 m4 m5
          cases z
          all_goals
            first
            | (have Hs2 : Hid (haveP (l.take (j + 1)) i = L ++ [p.node]) := by show _ = _; rw [Hs.out, if_pos rfl]
               obtain ⟨a4, n4, rfl⟩ := owns_slice Ho.out
               go_wp2_with (at_builtin; refine wpList_push rfl _ _ 22 rfl V.heap.size 3 (.int .i64 0) 1 8 Try.underlying22 info_intJ rfl (by decide) _ _ _ rfl Ho.out _ rfl rfl (by intro u hu; simp at hu; subst hu; rfl) (by unfold maxLen; omega) (by omega) HSz.out ?_)
               intro v' w3 ho hg
               have Ho3 : Hid (OwnJ V.heap.size w3 v' (haveP (l.take (j + 1)) i)) := by
                 show World.ownsRow _ _ _ _ _ _ _
                 rw [Hs2.out, List.map_append, List.length_append]; exact ho
               have Hb3 : Hid (Below V.heap.size V w3) := Hbj.out.trans (below_own Ho.out hg (Nat.le_refl _) HSz.out)
               clear ho hg
               go_wp2_with fail
               go_roundw
               case rel => exact ⟨j + 1, by go_num, hjl, Ho3, Hb3⟩
               case measure => simp [intOf]; omega)
            | (have Ho3 : Hid (OwnJ V.heap.size wr u15 (haveP (l.take (j + 1)) i)) := by
                 show World.ownsRow _ _ _ _ _ _ _
                 rw [Hs.out, if_neg (by simp), List.append_nil]; exact Ho.out
               go_wp2_with fail
               go_roundw
               case rel => exact ⟨j + 1, by go_num, hjl, Ho3, Hbj⟩
               case measure => simp [intOf]; omega)
        · have Hi5 : Hid (Ints wr u15 (haveP l i)) := by
            have := Ho.out
            rw [List.take_of_length_le (by omega)] at this
            exact Ints.of_own this
          have hlen := haveP_len l i
          have KQ := refQuorum_law a b d u15 c _ wr (HC.out _ (HU.out _ Hbj.out)) Hi5.out (by omega) (by omega)
          obtain ⟨z, hz⟩ := hide (quorumB c (haveP l i))
          obtain ⟨y, hy⟩ := hide (t == term)
          have Hs := Lib.hid (Htop.out)
          rw [hz.out, hy.out] at Hs
          have hy1 := hy.out
          rw [hz.out] at KQ
          have KQ := Lib.hid KQ
          have x0 := (HX.out _ (HU.out _ Hbj.out)).1
          have c0 : wr.cell? ⟨B, 0, none⟩ = some a := cell_n x0 0 rfl
          have c1 : wr.cell? ⟨B, 1, none⟩ = some b := cell_n x0 1 rfl
          have c2 : wr.cell? ⟨B, 2, none⟩ = some d := cell_n x0 2 rfl
          have t9 : decide (j < l.length) = false := decide_eq_false hjl
          clear hjl x0
          go_wp2_with fail
          refine KQ.out.mono ?_
          rintro e w5 ⟨rfl, hb5⟩
          have Hb5 := Lib.hid (HU.out _ (Hbj.out.trans (hb5.mono Hbj.out.size)))
          clear hb5 c0 c1 c2
          dsimp only
          cases y <;> cases z
          all_goals
            have Hn := Hs.out
            simp only [Bool.and_self, Bool.and_false, Bool.false_and, Bool.and_true, Bool.false_eq_true, if_false, if_true] at Hn
            first
            | (have Hn2 : Hid (x = base + (topOk (okB c l es base term) (k + 1) : Nat)) := by show _ = _; rw [Hn, ← Hx.out]
               clear Hn
               go_wp2_with fail
               go_roundw
               case rel => exact ⟨k + 1, i + 1, _, by go_num, rfl, Hi1, hkN, Hn2, Hb5⟩
               case measure => exact Hme.out)
            | (have Hn2 : Hid (i = base + (topOk (okB c l es base term) (k + 1) : Nat)) := by show _ = _; rw [Hn, Hi0.out]
               clear Hn
               go_wp2_with fail
               go_roundw
               case rel => exact ⟨k + 1, i + 1, _, by go_num, rfl, Hi1, hkN, Hn2, Hb5⟩
               case measure => exact Hme.out)
    · have hkk : k = N := by omega
      have hxr : x = res := by rw [Hx.out, Hres.out, hkk]
      have t0 : decide (i ≤ last) = false := decide_eq_false hle
      clear h9 h8 h7 hle hkk
      subst hxr
      have Hq := Lib.hid (Hp.out _ Hb3.out)
      go_wp2_with fail
      first | exact Hq.out | (go_ret; exact Hq.out)
end Go.Proofs.Ytgdmcbjlfnjhjaa
