/-
  What a leader knows of the others: those that have all up to an index; Ack; all members.
-/
import Derived.Test.YtgdmcbjlfnjhjaaUni
import Derived.Test.YtgdmcbjlfnjhjaaMq
import Derived.Test.YtgdmcbjlfnjhjaaCx
namespace Go.Proofs.Ytgdmcbjlfnjhjaa
open Go.RowKit Wm Mm
set_option linter.unusedVariables false
set_option linter.unusedSimpArgs false

/-- what is known of a node -/
structure ProgP where
  node : Int
  mtch : Int
  nxt : Int
  state : Int
  active : Bool
  heard : Int
abbrev rowG (p : ProgP) : List Value := [.int .i64 p.node, .int .i64 p.mtch, .int .i64 p.nxt, .int .i64 p.state, .bool p.active, .int .i64 p.heard]
abbrev arrG (p : ProgP) : Array Value := #[.int .i64 p.node, .int .i64 p.mtch, .int .i64 p.nxt, .int .i64 p.state, .bool p.active, .int .i64 p.heard]
theorem rowG_len (p : ProgP) : (rowG p).length = 6 := rfl
theorem rowG_one (p : ProgP) : ∀ u ∈ rowG p, u.oneCell' = true := by
  intro u hu
  simp at hu
  rcases hu with rfl | rfl | rfl | rfl | rfl | rfl <;> rfl
abbrev Prgs (F : Nat → Prop) (w : World) (v : Value) (l : List ProgP) : Prop := Sl 6 (Plain rowG) F w v l
theorem Prgs.six {F : Nat → Prop} {w : World} {a : Option Addr} {n c : Nat} {l : List ProgP} (h : Prgs F w (.slice a n c) l) {k : Nat} (hk : k < l.length) :
    ∃ b off, a = some ⟨b, off, none⟩ ∧ w.cell? ⟨b, off + k * 6, none⟩ = some (.int .i64 l[k].node) ∧ w.cell? ⟨b, off + k * 6 + 1, none⟩ = some (.int .i64 l[k].mtch) ∧ w.cell? ⟨b, off + k * 6 + 2, none⟩ = some (.int .i64 l[k].nxt) ∧ w.cell? ⟨b, off + k * 6 + 3, none⟩ = some (.int .i64 l[k].state) ∧ w.cell? ⟨b, off + k * 6 + 4, none⟩ = some (.bool l[k].active) ∧ w.cell? ⟨b, off + k * 6 + 5, none⟩ = some (.int .i64 l[k].heard) := by
  obtain ⟨b, off, us, e, _, _, hus, hcs⟩ := h.at hk
  have hus' : us = rowG l[k] := hus
  subst hus'
  exact ⟨b, off, e, hcs 0 _ rfl, hcs 1 _ rfl, hcs 2 _ rfl, hcs 3 _ rfl, hcs 4 _ rfl, hcs 5 _ rfl⟩
/-- those that have all up to an index -/
def haveP (l : List ProgP) (i : Int) : List Int := (l.filter (fun p => decide (i ≤ p.mtch))).map (·.node)
theorem haveP_len (l : List ProgP) (i : Int) : (haveP l i).length ≤ l.length := by
  unfold haveP; rw [List.length_map]; exact List.length_filter_le _ _
theorem haveP_snoc {l : List ProgP} {k : Nat} (h : k < l.length) (i : Int) : haveP (l.take (k + 1)) i = haveP (l.take k) i ++ (if decide (i ≤ l[k].mtch) = true then [l[k].node] else []) := by
  unfold haveP
  rw [List.take_add_one, List.getElem?_eq_getElem h, List.filter_append, List.map_append]
  congr 1
  by_cases hp : decide (i ≤ l[k].mtch) = true
  · rw [if_pos hp]; simp [hp]
  · rw [if_neg hp]; simp [hp]
abbrev blkI (i : Int) : Obj := .cells #[.int .i64 i] 3 (0, 0)
set_option maxHeartbeats 1000000 in
theorem commit1_law (p : ProgP) (i : Int) (I : Nat) (w : World) (hI : w.heap[I]? = some (blkI i)) :
    Calls Try.prog 62 #[.agg (arrG p), .pointer (some ⟨I, 0, none⟩)] w fun e w' => e = .returned (.bool (decide (i ≤ p.mtch))) ∧ Below w.heap.size w w' := by
  obtain ⟨V, hV⟩ := hide (w.alloc (.cells (arrG p) 27))
  obtain ⟨C, hC⟩ := hide w.heap.size
  have h1 : V.heap[C]? = some (.cells (arrG p) 27 (0, 0)) := by rw [← hV.out, ← hC.out]; exact hp_at _ _ rfl
  have h2 : V.heap[I]? = some (blkI i) := by rw [← hV.out]; exact (hp_past _ _ (by have := lt_of_block hI; omega)).trans hI
  have c0 := cell_n h1 1 (v := .int .i64 p.mtch) rfl
  have c1 := cell_n h2 0 (v := .int .i64 i) rfl
  have hb : Hid (Below w.heap.size w V) := by show Below _ _ _; rw [← hV.out]; exact (Below.refl _ _).alloc (Nat.le_refl _) _
  obtain ⟨z, hz⟩ := hide (decide (i ≤ p.mtch))
  have hz1 := hz.out
  rw [hz.out]
  obtain ⟨post, HP⟩ := hide (fun (e : Ending) (w' : World) => e = .returned (.bool z) ∧ Below w.heap.size w w')
  rw [HP.out]
  have Hp : Hid (post (.returned (.bool z)) V) := by
    show post _ _
    rw [← HP.out]; exact ⟨rfl, hb.out⟩
  clear hI h1 h2
  go_enter Try.func62, Try.ntmps62
  go_upto_region 1 with fail
  rw [hV.out, hC.out]
  go_wp2_with fail
  first | exact Hp.out | (go_ret; exact Hp.out)
set_option maxHeartbeats 2000000 in
theorem tnodes_law (i : Int) (I : Nat) (v : Value) (l : List ProgP) (F : Nat → Prop) (w : World) (hI : w.heap[I]? = some (blkI i)) (h : Prgs F w v l) (hl : l.length ≤ 1048576) :
    Calls Try.prog 61 #[v, .func (.func 62) #[] #[.pointer (some ⟨I, 0, none⟩)]] w fun e w' => ∃ v', e = .returned v' ∧ OwnI w.heap.size w' v' (haveP l i) ∧ Below w.heap.size w w' := by
  obtain ⟨post, HP⟩ := hide (fun (e : Ending) (w' : World) => ∃ v', e = .returned v' ∧ OwnI w.heap.size w' v' (haveP l i) ∧ Below w.heap.size w w')
  rw [HP.out]
  obtain ⟨ao, cap, rfl, _, _⟩ := h.slice
  have Hh : Hid (∀ w', Below w.heap.size w w' → Prgs F w' (.slice ao l.length cap) l) := fun w' hb => h.frame (Plain.good _) (Agree.below hb)
  have HI : Hid (∀ w', Below w.heap.size w w' → w'.heap[I]? = some (blkI i)) := fun w' hb => (hb.block I (lt_of_block hI)).trans hI
  obtain ⟨S, hS⟩ := hide w.heap.size
  rw [hS.out] at Hh HI HP
  have HSw : Hid (S ≤ w.heap.size) := by show _ ≤ _; rw [hS.out]; exact Nat.le_refl _
  clear h hI
  go_enter Try.func61, Try.ntmps61
  go_wp2
  go_loopw [4, 9] (fun v4 i9 wr => ∃ k : Nat, i9 = .int .i64 k ∧ k ≤ l.length ∧ Hid (OwnI S wr v4 (haveP (l.take k) i)) ∧ Hid (Below S w wr)) (fun _ i _ => l.length - (intOf i).toNat)
  case atStart => exact ⟨0, rfl, Nat.zero_le _, World.ownsRow_nil _ _ _ _, Below.refl _ _⟩
  case round =>
    obtain ⟨k, rfl, hk, Ho, Hb⟩ := hrel
    by_cases hlt : k < l.length
    · obtain ⟨b, off, rfl, m0, m1, m2, m3, m4, m5⟩ := (Hh.out _ Hb.out).six hlt
      have Hs := Lib.hid (haveP_snoc hlt i)
      have hlen := haveP_len (l.take k) i
      rw [List.length_take] at hlen
      obtain ⟨p, hp⟩ := hide l[k]
      rw [hp.out] at m0 m1 m2 m3 m4 m5 Hs
      obtain ⟨V, hV⟩ := hide (wr.alloc (.cells (arrG p) 27))
      obtain ⟨C, hC⟩ := hide wr.heap.size
      have hx : V.heap[C]? = some (.cells (arrG p) 27 (0, 0)) := by rw [← hV.out, ← hC.out]; exact hp_at _ _ rfl
      have hbV : Below S w V := by rw [← hV.out]; exact Hb.out.alloc (Nat.le_trans HSw.out Hb.out.size) _
      have Hx : Hid (∀ w', Below V.heap.size V w' → w'.heap[C]? = some (.cells (arrG p) 27 (0, 0)) ∧ Hid (Below S w w')) := fun w' h => ⟨(h.block C (lt_of_block hx)).trans hx, hbV.trans (h.mono (Nat.le_trans HSw.out hbV.size))⟩
      obtain ⟨L, hL⟩ := hide (haveP (l.take k) i)
      rw [hL.out] at Ho Hs hlen
      have HoV : Hid (OwnI S V u4 L) := by show World.ownsRow _ _ _ _ _ _ _; rw [← hV.out]; exact Ho.out.alloc _
      have HC1 := Lib.hid (commit1_law p i I V (HI.out V hbV))
      obtain ⟨z, hz⟩ := hide (decide (i ≤ p.mtch))
      rw [hz.out] at HC1 Hs
      have c0 := cell_n hx 0 (v := .int .i64 p.node) rfl
      have c1 := cell_n hx 1 (v := .int .i64 p.mtch) rfl
      have c2 := cell_n hx 2 (v := .int .i64 p.nxt) rfl
      have c3 := cell_n hx 3 (v := .int .i64 p.state) rfl
      have c4 := cell_n hx 4 (v := .bool p.active) rfl
      have c5 := cell_n hx 5 (v := .int .i64 p.heard) rfl
      have hk1 : k + 1 ≤ 1048577 := by omega
      clear hx hbV
      go_upto_region 4 with fail
      rw [hV.out, hC.out]
      go_wp2_with fail
      refine HC1.out.mono ?_
      rintro e w2 ⟨rfl, hb2⟩
      have Ho2 : Hid (OwnI S w2 u4 L) := own_below HoV.out hb2
      have x2 := Hx.out _ hb2
      have Hb2 := x2.2
      have d0 := cell_n x2.1 0 (v := .int .i64 p.node) rfl
      have HS2 : Hid (S ≤ w2.heap.size) := Nat.le_trans HSw.out Hb2.out.size
      clear hb2 x2 c0 c1 c2 c3 c4 c5 m0 m1 m2 m3 m4 m5
      cases z with
      | false =>
        have Hs2 : Hid (haveP (l.take (k + 1)) i = L) := by show _ = _; rw [Hs.out]; simp
        go_wp2_with fail
        go_roundw
        case rel => exact ⟨k + 1, by go_num, hlt, by rw [Hs2.out]; exact Ho2, Hb2⟩
        case measure => simp [intOf]; omega
      | true =>
        have Hs2 : Hid (haveP (l.take (k + 1)) i = L ++ [p.node]) := by show _ = _; rw [Hs.out]; simp
        obtain ⟨a4, n4, rfl⟩ := owns_slice Ho2.out
        go_wp2_with (at_builtin; refine wpList_push rfl _ _ 22 rfl S 3 (.int .i64 0) 1 8 Try.underlying22 info_intU rfl (by decide) _ _ _ rfl Ho2.out _ rfl rfl (by intro u hu; simp at hu; subst hu; rfl) (by unfold maxLen; omega) (by omega) HS2.out ?_)
        intro v' w3 ho hg
        have Ho3 : Hid (OwnI S w3 v' (L ++ [p.node])) := by
          show World.ownsRow _ _ _ _ _ _ _
          rw [List.map_append, List.length_append]; exact ho
        have Hb3 : Hid (Below S w w3) := Hb2.out.trans (below_own Ho2.out hg (Nat.le_refl _) HS2.out)
        clear ho hg d0
        go_wp2_with fail
        go_roundw
        case rel => exact ⟨k + 1, by go_num, hlt, by rw [Hs2.out]; exact Ho3, Hb3⟩
        case measure => simp [intOf]; omega
    · have Hp : Hid (post (.returned u4) wr) := by
        show post _ _
        rw [← HP.out]
        refine ⟨_, rfl, ?_, Hb.out⟩
        have := Ho.out
        rw [List.take_of_length_le (by omega)] at this
        exact this
      have t0 : decide (k < l.length) = false := decide_eq_false hlt
      clear hlt
      go_wp2_with fail
      first | exact Hp.out | (go_ret; exact Hp.out)
end Go.Proofs.Ytgdmcbjlfnjhjaa
