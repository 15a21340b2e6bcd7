/-
  ConfigMeets: the law's walk: the configuration, the operations made fit.
-/
import Derived.Test.YtgdmcbjlfnjhjaaCmd
namespace Go.Proofs.Ytgdmcbjlfnjhjaa
open Go.RowKit Wm Mm
set_option linter.unusedVariables false
set_option linter.unusedSimpArgs false

abbrev rowO (o : OpP) : List Value := [.int .i64 o.kind, .int .i64 o.node]
theorem rowO_len (o : OpP) : (rowO o).length = 2 := rfl
theorem rowO_one (o : OpP) : ∀ u ∈ rowO o, u.oneCell' = true := by
  intro u hu
  simp at hu
  rcases hu with rfl | rfl <;> rfl
theorem info_op : (Try.prog.info? 44).map (fun i => (i.zero, i.size, i.bytes)) = some (some (.agg #[.int .i64 0, .int .i64 0]), 2, 16) := by kernel_rfl
abbrev OwnO (S : Nat) (w : World) (v : Value) (l : List OpP) : Prop := w.ownsRow S 44 2 v l.length (l.flatMap rowO)
theorem rowO_at : ∀ (l : List OpP) (k : Nat) (hk : k < l.length), (l.flatMap rowO)[k * 2]? = some (.int .i64 l[k].kind) ∧ (l.flatMap rowO)[k * 2 + 1]? = some (.int .i64 l[k].node)
  | a :: r, 0, _ => ⟨rfl, rfl⟩
  | a :: r, k + 1, h => by
    have ih := rowO_at r k (by simpa using h)
    rw [List.flatMap_cons, show (k + 1) * 2 = k * 2 + 1 + 1 from by omega]
    exact ih
theorem rowO_set : ∀ (l : List OpP) (k : Nat) (y : OpP), k < l.length → ((l.flatMap rowO).set (k * 2) (.int .i64 y.kind)).set (k * 2 + 1) (.int .i64 y.node) = (l.set k y).flatMap rowO
  | a :: r, 0, y, _ => rfl
  | a :: r, k + 1, y, h => by
    have ih := rowO_set r k y (by simpa using h)
    rw [List.set_cons_succ, List.flatMap_cons, List.flatMap_cons, ← ih, show (k + 1) * 2 = k * 2 + 1 + 1 from by omega]
    rfl
theorem OpsW.of_own {S : Nat} {w : World} {v : Value} {l : List OpP} (h : OwnO S w v l) : OpsW w v l := by
  rcases h.2 with ⟨rfl, h0⟩ | ⟨g, cap, cur, rfl, hb, hg, hn, hc, hs, ht⟩
  · have : l = [] := List.length_eq_zero_iff.1 h0
    subst this
    exact ⟨none, 0, rfl, fun h => absurd rfl h, Nat.zero_le _⟩
  · refine ⟨_, _, rfl, fun _ => ⟨g, 0, rfl, fun j o hj => ?_⟩, Nat.le_trans hn hc⟩
    obtain ⟨hjl, rfl⟩ := List.getElem?_eq_some_iff.1 hj
    obtain ⟨h1, h2⟩ := rowO_at l j hjl
    rw [Nat.zero_add]
    exact ⟨own_cell h h1, own_cell h h2⟩
set_option maxHeartbeats 4000000 in
set_option maxRecDepth 100000 in
theorem law_meets (voters learners one two : Int) (rv : Value) (raw : List OpP) (w : World) (h : Sl 2 (Plain rowO) (fun _ => True) w rv raw) (hn : raw.length ≤ 8796093022208) :
    Calls Try.prog 4 #[.int .i64 voters, .int .i64 learners, rv, .int .i64 one, .int .i64 two] w fun e w' => e = .returned (.bool true) ∧ Below w.heap.size w w' := by
  obtain ⟨post, HP⟩ := hide (fun (e : Ending) (w' : World) => e = .returned (.bool true) ∧ Below w.heap.size w w')
  rw [HP.out]
  obtain ⟨ro, rc, rfl, _, _⟩ := h.slice
  have Hn := Lib.hid hn
  have Hh : Hid (∀ w', Below w.heap.size w w' → Sl 2 (Plain rowO) (fun _ => True) w' (.slice ro raw.length rc) raw) := fun w' hb => h.frame (Plain.good _) (Agree.below hb)
  obtain ⟨c, hc⟩ := hide (confP voters learners)
  have Hv : Hid (validB c = true) := by show _ = _; rw [← hc.out]; exact confP_valid voters learners
  have Hne : Hid (c.v ≠ []) := by show _ ≠ _; rw [← hc.out]; exact (confV_rising voters).2
  have Hnn : Hid (c.n = []) := by show _ = _; rw [← hc.out]; rfl
  have HCf := configOf_law voters learners w
  rw [hc.out] at HCf
  have HCf := Lib.hid HCf
  clear h hn hc
  go_enter Try.func4, Try.ntmps4
  go_wp2_with fail
  refine HCf.out.mono ?_
  rintro e w1 ⟨ca, cb, cd, rfl, hcf, hb1⟩
  obtain ⟨x1, y1, rfl⟩ := hcf.v.len
  obtain ⟨x2, y2, rfl⟩ := hcf.n.len
  obtain ⟨x3, y3, rfl⟩ := hcf.l.len
  obtain ⟨V1, hV1⟩ := hide (w1.alloc (.cells #[(.slice x1 c.v.length y1), (.slice x2 c.n.length y2), (.slice x3 c.l.length y3)] 25))
  have hx : V1.heap[w1.heap.size]? = some (.cells #[(.slice x1 c.v.length y1), (.slice x2 c.n.length y2), (.slice x3 c.l.length y3)] 25 (0, 0)) := by rw [← hV1.out]; exact hp_at _ _ rfl
  have hbV : Below w.heap.size w V1 := by rw [← hV1.out]; exact hb1.alloc hb1.size _
  have hcV : Config3 V1 (.slice x1 c.v.length y1) (.slice x2 c.n.length y2) (.slice x3 c.l.length y3) c := hcf.conf.mono (by rw [← hV1.out]; exact (Below.refl _ _).alloc (Nat.le_refl _) _)
  obtain ⟨D, hD⟩ := hide w1.heap.size
  rw [hD.out] at hx
  have HC : Hid (∀ w', Below V1.heap.size V1 w' → w'.heap[D]? = some (.cells #[(.slice x1 c.v.length y1), (.slice x2 c.n.length y2), (.slice x3 c.l.length y3)] 25 (0, 0)) ∧ Config3 w' (.slice x1 c.v.length y1) (.slice x2 c.n.length y2) (.slice x3 c.l.length y3) c) := fun w' h => ⟨(h.block D (lt_of_block hx)).trans hx, hcV.mono h⟩
  have HbV := Lib.hid hbV
  have Hsrc := Lib.hid (src_sl (P := Try.prog) (tx := 42) rowO Try.underlying42 (by decide) rowO_len rowO_one (Hh.out V1 hbV))
  clear hx hb1 hbV hcV hcf
  try dsimp only
  go_upto_region 2 with fail
  rw [hV1.out, hD.out]
  go_wp2_with (at_builtin; refine wpList_append_src rfl _ _ 42 42 rfl V1.heap.size 44 (.agg #[.int .i64 0, .int .i64 0]) 2 16 Try.underlying42 info_op rfl _ _ _ rfl (World.ownsRow_nil V1 V1.heap.size 44 2) _ _ _ rfl Hsrc.out (by have := Hn.out; unfold maxLen; omega) (by have := Hn.out; omega) (Nat.le_refl _) ?_)
  intro v2 w2 ho hg
  have hb2 : Below V1.heap.size V1 w2 := below_own (World.ownsRow_nil V1 V1.heap.size 44 2) hg (Nat.le_refl _) (Nat.le_refl _)
  try simp only [Nat.zero_add, List.nil_append] at ho
  obtain ⟨a12, c12, rfl⟩ := owns_slice ho
  have Ho := Lib.hid ho
  have Hb2 := Lib.hid hb2
  obtain ⟨N, hN⟩ := hide raw.length
  have HNb : Hid (N ≤ 8796093022208) := by show _ ≤ _; rw [← hN.out]; exact Hn.out
  rw [hN.out] at Ho
  have hNb := HNb.out
  clear ho hg hb2
  try dsimp only
  go_upto_region 3 with fail
  try simp only [Nat.zero_add]
  try rw [hN.out]
  go_wp2_with fail
  go_loopw [13] (fun i wr => ∃ (k : Nat) (cur : List OpP), i = .int .i64 k ∧ k ≤ N ∧ Hid (cur.length = N) ∧ Hid (wr.ownsRow V1.heap.size 44 2 (.slice a12 N c12) N (cur.flatMap rowO)) ∧ Hid (Below V1.heap.size V1 wr)) (fun i _ => N - (intOf i).toNat)
  case atStart => exact ⟨0, raw, rfl, Nat.zero_le _, hN.out, Ho, Hb2⟩
  case round =>
    rename_i K1 hK1
    obtain ⟨k, cur, rfl, hk, Hcl, Hoc, Hbc⟩ := hrel
    by_cases hlt : k < N
    · have hkc : k < cur.length := by rw [Hcl.out]; exact hlt
      obtain ⟨g, rfl, hgS⟩ : ∃ g, a12 = some ⟨g, 0, none⟩ ∧ V1.heap.size ≤ g := by
        rcases Hoc.out.2 with ⟨_, h0⟩ | ⟨g, cap, cu, he, hb, _⟩
        · omega
        · injection he with e1 e2 e3
          exact ⟨g, e1, hb⟩
      obtain ⟨hr1, hr2⟩ := rowO_at cur k hkc
      have d0 := own_cell Hoc.out hr1
      have d1 := own_cell Hoc.out hr2
      have f0 := own_free Hoc.out (k * 2)
      have f1 := own_free Hoc.out (k * 2 + 1)
      have HG := Lib.hid hgS
      obtain ⟨kind, hkd⟩ := hide cur[k].kind
      obtain ⟨node, hnd⟩ := hide cur[k].node
      rw [hkd.out] at d0
      rw [hnd.out] at d1
      have i1 : decide ((k : Int) < (N : Int)) = true := decide_eq_true (by omega)
      have hk1 : k + 1 ≤ 8796093022208 := by omega
      clear hr1 hr2 hgS
      go_wp2_with fail
      refine (pick_any _ 3 _ (by omega) (by omega)).mono ?_
      rintro e w' ⟨rfl, rfl⟩
      have hp := pickN_lt (c := wrap64 (kind - 1)) (n := 3) (by omega)
      obtain ⟨p1, hp1⟩ := hide (pickN (wrap64 (kind - 1)) 3)
      rw [hp1.out] at hp ⊢
      have hpn : p1 ≤ 2 := by omega
      clear hp
      obtain ⟨w6, hw6⟩ := hide (wr.setCell ⟨g, k * 2, none⟩ (.int .i64 (1 + (p1 : Int))))
      have Ho6 : Hid (w6.ownsRow V1.heap.size 44 2 (.slice (some ⟨g, 0, none⟩) N c12) N ((cur.flatMap rowO).set (k * 2) (.int .i64 (1 + (p1 : Int))))) := by
        show World.ownsRow _ _ _ _ _ _ _
        rw [← hw6.out]; exact own_put Hoc.out _ _
      have Hb6 : Hid (Below V1.heap.size V1 w6) := by
        show Below _ _ _
        rw [← hw6.out]; exact Hbc.out.setCell (p := ⟨g, k * 2, none⟩) HG.out _
      have hr2 : ((cur.flatMap rowO).set (k * 2) (.int .i64 (1 + (p1 : Int))))[k * 2 + 1]? = some (.int .i64 node) := by
        rw [List.getElem?_set_ne (by omega), (rowO_at cur k hkc).2, hnd.out]
      have d1' := own_cell Ho6.out hr2
      have f1' := own_free Ho6.out (k * 2 + 1)
      clear hr2 d1 f1
      dsimp only
      go_upto_region 7 with fail
      rw [hw6.out]
      clear d0 f0
      go_wp2_with fail
      refine (pick_any _ 9 _ (by omega) (by omega)).mono ?_
      rintro e w' ⟨rfl, rfl⟩
      have hp := pickN_lt (c := wrap64 (node - 1)) (n := 9) (by omega)
      obtain ⟨p2, hp2⟩ := hide (pickN (wrap64 (node - 1)) 9)
      rw [hp2.out] at hp ⊢
      have hpn2 : p2 ≤ 8 := by omega
      clear hp
      obtain ⟨w7, hw7⟩ := hide (w6.setCell ⟨g, k * 2 + 1, none⟩ (.int .i64 (1 + (p2 : Int))))
      have Ho7 : Hid (w7.ownsRow V1.heap.size 44 2 (.slice (some ⟨g, 0, none⟩) N c12) N ((cur.set k ⟨1 + (p1 : Int), 1 + (p2 : Int)⟩).flatMap rowO)) := by
        show World.ownsRow _ _ _ _ _ _ _
        rw [← hw7.out, ← rowO_set cur k ⟨1 + (p1 : Int), 1 + (p2 : Int)⟩ hkc]; exact own_put Ho6.out _ _
      have Hb7 : Hid (Below V1.heap.size V1 w7) := by
        show Below _ _ _
        rw [← hw7.out]; exact Hb6.out.setCell (p := ⟨g, k * 2 + 1, none⟩) HG.out _
      have Hl7 : Hid ((cur.set k ⟨1 + (p1 : Int), 1 + (p2 : Int)⟩).length = N) := by show _ = _; rw [List.length_set]; exact Hcl.out
      dsimp only
      go_upto_region 5 with fail
      rw [hw7.out]
      clear d1' f1'
      go_wp2_with fail
      go_roundw
      case rel => exact ⟨k + 1, _, by go_num, by omega, Hl7, Ho7, Hb7⟩
      case measure => simp [intOf]; omega
    · have Hof : Hid (OwnO V1.heap.size wr (.slice a12 N c12) cur) := by
        show World.ownsRow _ _ _ _ _ _ _
        rw [Hcl.out]; exact Hoc.out
      have HW := OpsW.of_own Hof.out
      have HW9 : Hid (∀ w', Below wr.heap.size wr w' → OpsW w' (.slice a12 cur.length c12) cur) := by
        show ∀ w', _ → _
        intro w' h
        rw [Hcl.out]
        exact HW.mono h
      have HP9 : Hid (∀ w', Below wr.heap.size wr w' → post (.returned (.bool true)) w') := by
        show ∀ w', _ → _
        intro w' h
        rw [← HP.out]
        exact ⟨rfl, HbV.out.trans ((Hbc.out.trans (h.mono Hbc.out.size)).mono HbV.out.size)⟩
      have HC9 : Hid (∀ w', Below wr.heap.size wr w' → w'.heap[D]? = some (.cells #[(.slice x1 c.v.length y1), (.slice x2 c.n.length y2), (.slice x3 c.l.length y3)] 25 (0, 0)) ∧ Config3 w' (.slice x1 c.v.length y1) (.slice x2 c.n.length y2) (.slice x3 c.l.length y3) c) := fun w' h => HC.out w' (Hbc.out.trans (h.mono Hbc.out.size))
      have hq : quorumB c c.v = true := by
        rw [quorumB, most_all Hne.out, Hnn.out]; rfl
      have hno : quorumB c [] = false := by rw [quorumB, most_none]; rfl
      have t0 : decide (k < N) = false := decide_eq_false hlt
      clear hlt HW
      go_upto_if 40 with (fail)
      obtain rfl : cur.length = N := Hcl.out
      iterate 12 (first | done | (refine hK1 _ _ ?_; exact meets_all wr post HP9 D (.slice x1 c.v.length y1) (.slice x2 c.n.length y2) (.slice x3 c.l.length y3) c HC9 Hv.out hq hno cur a12 c12 HW9 one two) | exact meets_all wr post HP9 D (.slice x1 c.v.length y1) (.slice x2 c.n.length y2) (.slice x3 c.l.length y3) c HC9 Hv.out hq hno cur a12 c12 HW9 one two | go_step)
end Go.Proofs.Ytgdmcbjlfnjhjaa
