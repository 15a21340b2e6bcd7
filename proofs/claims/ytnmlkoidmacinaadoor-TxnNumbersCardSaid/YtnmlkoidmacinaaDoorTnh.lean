/-
  Numbers of keys: the document's reading: a key's text.
-/
import Derived.Test.YtnmlkoidmacinaaDoorTnw
import Derived.Test.YtnmlkoidmacinaaDoorTnr
import Derived.Test.YtnmlkoidmacinaaDoorOw
import Derived.Deep.DeepCutAuto
namespace Go.Proofs.YtnmlkoidmacinaaDoor
open Go.RowKit Wm Mm Tn
set_option linter.unusedVariables false
set_option linter.unusedSimpArgs false

/-- how the loop over the text stands -/
def SpInv (s : List UInt8) (i fr : Nat) (dn : List (List UInt8)) : Prop := (i ≤ s.length → fr ≤ i ∧ spc [] s = dn ++ spc ((s.take i).drop fr) (s.drop i)) ∧ (i = s.length + 1 → spc [] s = dn) ∧ dn.length ≤ i
theorem SpInv.zero (s : List UInt8) : SpInv s 0 0 [] := ⟨fun _ => ⟨Nat.le_refl _, rfl⟩, fun h => by omega, Nat.le_refl _⟩
theorem SpInv.cut {s : List UInt8} {i fr : Nat} {dn : List (List UInt8)} (h : SpInv s i fr dn) (hi : i < s.length) (hc : s[i] = 32) : SpInv s (i + 1) (i + 1) (dn ++ [(s.take i).drop fr]) := by
  obtain ⟨h1, h2, h3⟩ := h
  obtain ⟨h4, h5⟩ := h1 (by omega)
  rw [List.drop_eq_getElem_cons hi, hc] at h5
  simp only [spc, if_pos] at h5
  refine ⟨fun _ => ⟨Nat.le_refl _, ?_⟩, fun h => by omega, by rw [List.length_append, List.length_singleton]; omega⟩
  have hd : (s.take (i + 1)).drop (i + 1) = [] := List.drop_eq_nil_of_le (by rw [List.length_take]; omega)
  rw [h5, hd, List.append_assoc]
  rfl
theorem SpInv.go {s : List UInt8} {i fr : Nat} {dn : List (List UInt8)} (h : SpInv s i fr dn) (hi : i < s.length) (hc : s[i] ≠ 32) : SpInv s (i + 1) fr dn := by
  obtain ⟨h1, h2, h3⟩ := h
  obtain ⟨h4, h5⟩ := h1 (by omega)
  rw [List.drop_eq_getElem_cons hi] at h5
  simp only [spc, if_neg hc] at h5
  refine ⟨fun _ => ⟨by omega, ?_⟩, fun h => by omega, by omega⟩
  rw [h5, List.take_add_one, List.getElem?_eq_getElem hi, List.drop_append_of_le_length (by rw [List.length_take]; omega)]
  rfl
theorem SpInv.last {s : List UInt8} {i fr : Nat} {dn : List (List UInt8)} (h : SpInv s i fr dn) (hi : i = s.length) : SpInv s (i + 1) (i + 1) (dn ++ [(s.take i).drop fr]) := by
  obtain ⟨h1, h2, h3⟩ := h
  obtain ⟨h4, h5⟩ := h1 (by omega)
  have hd : s.drop i = [] := List.drop_eq_nil_of_le (by omega)
  rw [hd] at h5
  exact ⟨fun h => by omega, fun _ => h5, by rw [List.length_append, List.length_singleton]; omega⟩
theorem ext_mid (l : List UInt8) (a b : Nat) : Value.string ((ByteArray.mk l.toArray).extract a b) = str ((l.take b).drop a) := by
  show Value.string _ = Value.string _
  congr 1
  rw [ByteArray.extract_mk]
  simp [List.drop_take]
theorem info_strT : (Tryd.prog.info? 9).map (fun i => (i.zero, i.size, i.bytes)) = some (some (.string ByteArray.empty), 1, 16) := by kernel_rfl
abbrev rowS1 (x : List UInt8) : List Value := [str x]
abbrev OwnS1 (S : Nat) (w : World) (v : Value) (l : List (List UInt8)) : Prop := w.ownsRow S 9 1 v l.length (l.flatMap rowS1)
theorem OwnS1.push {S : Nat} {w : World} {v : Value} {dn : List (List UInt8)} {x : List UInt8} {u : Value} (h : w.ownsRow S 9 1 v (dn.length + 1) (dn.flatMap rowS1 ++ [u])) (hu : u = str x) : OwnS1 S w v (dn ++ [x]) := by
  show w.ownsRow _ _ _ _ _ _
  rw [List.length_append, List.flatMap_append, List.length_singleton]
  rw [hu] at h
  exact h
theorem size_heldT : (Tryd.prog.info? 49).map (·.size) = some 3 := by kernel_rfl
theorem OwnS1.cell {S : Nat} {w : World} {a : Option Addr} {n c : Nat} {l : List (List UInt8)} (h : OwnS1 S w (.slice a n c) l) {i : Nat} (hi : i < l.length) : ∃ g, a = some ⟨g, 0, none⟩ ∧ w.cell? ⟨g, i, none⟩ = some (str l[i]) := by
  rcases h.2 with ⟨h0, h1⟩ | ⟨g, cap, cur, hv, hb, hg, hn, hc, hs, ht⟩
  · rw [h1] at hi; exact absurd hi (Nat.not_lt_zero _)
  · injection hv with e1 e2 e3
    subst e1 e2 e3
    refine ⟨g, rfl, own_cell h (i := i) ?_⟩
    have : ∀ (l : List (List UInt8)), l.flatMap rowS1 = l.map str := by
      intro l
      induction l with
      | nil => rfl
      | cons x r ih => rw [List.flatMap_cons, ih]; rfl
    rw [this, List.getElem?_map, List.getElem?_eq_getElem hi]
    rfl
set_option maxHeartbeats 4000000 in
set_option maxRecDepth 100000 in
theorem heldOf_law (s : List UInt8) (hs : s.length ≤ 1048576) (w : World) :
    Calls Tryd.prog 22 #[str s] w fun e w' => e = .returned (.agg (heldC s).toArray) ∧ Below w.heap.size w w' := by
  obtain ⟨post, HP⟩ := hide (fun (e : Ending) (w' : World) => e = .returned (.agg (heldC s).toArray) ∧ Below w.heap.size w w')
  rw [HP.out]
  have hb1 : Below w.heap.size w (w.alloc (.cells #[.int .i64 0, .int .i64 0, .int .i64 0] 49)) := (Below.refl _ _).alloc (Nat.le_refl _) _
  have hr1 := hp_at w (.cells #[.int .i64 0, .int .i64 0, .int .i64 0] 49) (k := w.heap.size) rfl
  go_enter Tryd.func22, Tryd.ntmps22
  go_upto_region 1 with fail
  obtain ⟨W1, hW1⟩ := hide (w.alloc (.cells #[.int .i64 0, .int .i64 0, .int .i64 0] 49))
  have hs1 : W1.heap.size = w.heap.size + 1 := by rw [← hW1.out]; simp
  rw [hW1.out] at hb1 hr1
  rw [hW1.out]
  have HB1 := Lib.hid hb1
  obtain ⟨R, hR⟩ := hide w.heap.size
  rw [hR.out] at hr1
  rw [hR.out]
  have HR1 := Lib.hid hr1
  have HRs : Hid (R = w.heap.size ∧ W1.heap.size = w.heap.size + 1) := ⟨hR.out.symm, hs1⟩
  clear hb1 hr1 hs1
  go_wp2_with fail
  go_loopw [3, 4, 5] (fun s3 s4 s5 wr => ∃ (i fr : Nat) (dn : List (List UInt8)) (a : Option Addr) (c : Nat), s5 = .int .i64 (i : Int) ∧ s3 = .int .i64 (fr : Int) ∧ s4 = .slice a dn.length c ∧ i ≤ s.length + 1 ∧ Hid (SpInv s i fr dn) ∧ Hid (OwnS1 W1.heap.size wr (.slice a dn.length c) dn) ∧ Hid (Below W1.heap.size W1 wr)) (fun _ _ s5 _ => s.length + 1 - (intOf s5).toNat)
  case atStart => exact ⟨0, 0, [], none, 0, rfl, rfl, rfl, Nat.zero_le _, SpInv.zero s, World.ownsRow_nil _ _ _ _, Below.refl _ _⟩
  case round =>
    obtain ⟨i, fr, dn, a, c, rfl, rfl, rfl, hi, hI, ho, hb⟩ := hrel
    have HWs : Hid (W1.heap.size ≤ wr.heap.size) := hb.out.size
    have Hdn : Hid (dn.length ≤ 1048577) := by show _ ≤ _; have := hI.out.2.2; omega
    by_cases hle : i ≤ s.length
    · have t0 : decide ((i : Int) ≤ (s.length : Int)) = true := decide_eq_true (by omega)
      have t0n : decide (i ≤ s.length) = true := decide_eq_true hle
      have hfr := (hI.out.1 hle).1
      by_cases hlt : i < s.length
      · have t1 : ((i : Int) == (s.length : Int)) = false := beq_eq_false_iff_ne.2 (by omega)
        have t2 : decide (i < s.length) = true := decide_eq_true hlt
        by_cases hc : s[i] = 32
        · have t3 : ((s[i].toNat : Int) == 32) = true := by rw [hc]; rfl
          have HI2 := Lib.hid (hI.out.cut hlt hc)
          have Hi2 : Hid (i + 1 ≤ s.length + 1) := by show _ ≤ _; omega
          clear hc
          go_wp2_with (at_builtin; refine wpList_push rfl _ _ 54 rfl W1.heap.size 9 _ 1 16 Tryd.underlying54 info_strT rfl (by decide) _ _ _ rfl ho.out _ rfl rfl (by intro u hu; simp at hu; subst hu; rfl) (by have := Hdn.out; unfold maxLen; omega) (by have := Hdn.out; omega) HWs.out ?_)
          intro v2 w2 ho2 hg2
          obtain ⟨a2, c2, rfl⟩ := owns_slice ho2
          have Ho2 : Hid (OwnS1 W1.heap.size w2 (.slice a2 (dn ++ [(s.take i).drop fr]).length c2) (dn ++ [(s.take i).drop fr])) := by
            show OwnS1 _ _ _ _
            have h := OwnS1.push ho2 (ext_mid s fr i)
            rw [List.length_append, List.length_singleton]
            exact h
          have Hb2 : Hid (Below W1.heap.size W1 w2) := hb.out.trans (below_own ho.out hg2 (Nat.le_refl _) HWs.out)
          have Hln : Hid ((dn ++ [(s.take i).drop fr]).length = dn.length + 1) := by show _ = _; rw [List.length_append, List.length_singleton]
          clear ho2 hg2
          go_wp2_with fail
          go_roundw
          case rel => exact ⟨i + 1, i + 1, dn ++ [(s.take i).drop fr], a2, c2, by go_num, by go_num, by rw [Hln.out], Hi2.out, HI2, Ho2, Hb2⟩
          case measure => simp [intOf]; omega
        · have t3 : ((s[i].toNat : Int) == 32) = false := beq_eq_false_iff_ne.2 (fun h => hc (UInt8.toNat.inj (by show _ = 32; omega)))
          have HI2 := Lib.hid (hI.out.go hlt hc)
          have Hi2 : Hid (i + 1 ≤ s.length + 1) := by show _ ≤ _; omega
          clear hc
          go_wp2_with fail
          go_roundw
          case rel => exact ⟨i + 1, fr, dn, a, c, by go_num, by first | rfl | trivial, by first | rfl | trivial, Hi2.out, HI2, ho, hb⟩
          case measure => simp [intOf]; omega
      · have hil : i = s.length := by omega
        have t1 : ((i : Int) == (s.length : Int)) = true := beq_iff_eq.2 (by omega)
        have HI2 := Lib.hid (hI.out.last hil)
        have Hi2 : Hid (i + 1 ≤ s.length + 1) := by show _ ≤ _; omega
        have hmax : (i : Int) ≤ 1048576 := by omega
        have hlei : (i : Int) ≤ (s.length : Int) := by omega
        have hfri : (fr : Int) ≤ (i : Int) := by omega
        clear hil hlt
        go_wp2_with (at_builtin; refine wpList_push rfl _ _ 54 rfl W1.heap.size 9 _ 1 16 Tryd.underlying54 info_strT rfl (by decide) _ _ _ rfl ho.out _ rfl rfl (by intro u hu; simp at hu; subst hu; rfl) (by have := Hdn.out; unfold maxLen; omega) (by have := Hdn.out; omega) HWs.out ?_)
        intro v2 w2 ho2 hg2
        obtain ⟨a2, c2, rfl⟩ := owns_slice ho2
        have Ho2 : Hid (OwnS1 W1.heap.size w2 (.slice a2 (dn ++ [(s.take i).drop fr]).length c2) (dn ++ [(s.take i).drop fr])) := by
          show OwnS1 _ _ _ _
          have h := OwnS1.push ho2 (ext_mid s fr i)
          rw [List.length_append, List.length_singleton]
          exact h
        have Hb2 : Hid (Below W1.heap.size W1 w2) := hb.out.trans (below_own ho.out hg2 (Nat.le_refl _) HWs.out)
        have Hln : Hid ((dn ++ [(s.take i).drop fr]).length = dn.length + 1) := by show _ = _; rw [List.length_append, List.length_singleton]
        clear ho2 hg2
        go_wp2_with fail
        go_roundw
        case rel => exact ⟨i + 1, i + 1, dn ++ [(s.take i).drop fr], a2, c2, by go_num, by go_num, by rw [Hln.out], Hi2.out, HI2, Ho2, Hb2⟩
        case measure => simp [intOf]; omega
    · have t0 : decide ((i : Int) ≤ (s.length : Int)) = false := decide_eq_false (by omega)
      have t0n : decide (i ≤ s.length) = false := decide_eq_false hle
      have hil : i = s.length + 1 := by omega
      have hsp := hI.out.2.1 hil
      have hnp := spc_pos s []
      have hdoc := heldV_doc s
      have hlm : ∀ x ∈ dn, x.length ≤ 1099511627776 := fun x hx => by have := spc_len s [] x (by rw [hsp]; exact hx); simp at this; omega
      rw [hsp] at hnp hdoc
      have hpos : 0 < dn.length := hnp
      obtain ⟨g, rfl, k0⟩ := ho.out.cell (i := 0) hpos
      have e0 : dn.getD 0 [] = dn[0] := by simp [List.getD, hpos]
      rw [e0] at hdoc
      have HA0 := Lib.hid (fun w1 => amount_law dn[0] 999999999 (by decide) (hlm _ (List.getElem_mem hpos)) w1)
      have Hdoc := Lib.hid hdoc
      have Hlm := Lib.hid hlm
      have HRes : Hid (∀ wX, wX.heap[R]? = some (.cells #[.int .i64 0, .int .i64 0, .int .i64 0] 49 (0, 0)) → Below w.heap.size w wX → ∀ x y z : Int, heldC s = [.int .i64 x, .int .i64 y, .int .i64 z] → ∃ W9, W9 = setFrom wX R 0 [.int .i64 x, .int .i64 y, .int .i64 z] ∧ W9.heap[R]? = some (.cells #[.int .i64 x, .int .i64 y, .int .i64 z] 49 (0, 0)) ∧ post (.returned (.agg #[.int .i64 x, .int .i64 y, .int .i64 z])) W9) := by
        show ∀ wX, _ → _ → ∀ x y z, _ → _
        intro wX h1 h2 x y z hh
        refine ⟨_, rfl, setAll_at (xs := [.int .i64 0, .int .i64 0, .int .i64 0]) h1 _ rfl, ?_⟩
        rw [← HP.out]
        exact ⟨by rw [hh], setAll_below h2 (by have := HRs.out; omega) _⟩
      have HCz : Hid (heldV s = (0, 0, 0) → heldC s = [.int .i64 0, .int .i64 0, .int .i64 0]) := fun h => by unfold heldC; rw [h]; rfl
      have HCn : Hid (∀ n b t : Nat, heldV s = (n, b, t) → heldC s = [.int .i64 (n : Int), .int .i64 (b : Int), .int .i64 (t : Int)]) := fun n b t h => by unfold heldC; rw [h]
      have hWr : wr.heap[R]? = some (.cells #[.int .i64 0, .int .i64 0, .int .i64 0] 49 (0, 0)) := (hb.out.block R (by have := HRs.out; omega)).trans HR1.out
      have hWb : Below w.heap.size w wr := HB1.out.trans (hb.out.mono (by have := HRs.out; omega))
      obtain ⟨x0, hx0⟩ := hide dn[0]
      have hz0 : amountV 999999999 x0 = match amountB 999999999 x0 with | none => -1 | some n => (n : Int) := rfl
      obtain ⟨z0, hz⟩ := hide (amountV 999999999 x0)
      rw [hx0.out] at k0 HA0
      rw [hz.out] at HA0 hz0
      rw [hx0.out] at Hdoc
      have Hz0 := Lib.hid hz0
      have hW9a : (wr.alloc (.cells #[.int .i64 z0, .int .i64 0, .int .i64 0] 49)).heap[R]? = some (.cells #[.int .i64 0, .int .i64 0, .int .i64 0] 49 (0, 0)) := (((Below.refl wr.heap.size wr).alloc (Nat.le_refl _) _).block R (lt_of_block hWr)).trans hWr
      have hW9b : Below w.heap.size w (wr.alloc (.cells #[.int .i64 z0, .int .i64 0, .int .i64 0] 49)) := hWb.alloc hWb.size _
      have hH9 := hp_at wr (.cells #[.int .i64 z0, .int .i64 0, .int .i64 0] 49) (k := wr.heap.size) rfl
      have HRH : Hid (R < wr.heap.size) := lt_of_block hWr
      clear hil hsp hnp hdoc hlm e0 hz0 hWr hWb
      go_wp2_with fail
      refine (HA0.out _).mono ?_
      rintro e w5 ⟨rfl, rfl⟩
      dsimp only
      go_upto_region 10 with fail
      obtain ⟨WH, hWH⟩ := hide (wr.alloc (.cells #[.int .i64 z0, .int .i64 0, .int .i64 0] 49))
      rw [hWH.out] at hW9a hW9b hH9
      have hbH : Below wr.heap.size wr WH := by rw [← hWH.out]; exact (Below.refl _ _).alloc (Nat.le_refl _) _
      have hgw : g < wr.heap.size := lt_of_cell k0
      have HcG : Hid (∀ j (hj : j < dn.length), WH.cell? ⟨g, j, none⟩ = some (str dn[j])) := by
        show ∀ j hj, _
        intro j hj
        obtain ⟨g2, hg2, kj⟩ := ho.out.cell (i := j) hj
        injection hg2 with hg2
        injection hg2 with hg3 _ _
        rw [← hg3] at kj
        exact (hbH.cell (p := ⟨g, j, none⟩) hgw).trans kj
      obtain ⟨H, hH⟩ := hide wr.heap.size
      rw [hH.out] at hH9 hgw HRH
      rw [hWH.out, hH.out]
      have HWa := Lib.hid hW9a
      have HWb := Lib.hid hW9b
      have HH9 := Lib.hid hH9
      have HgH := Lib.hid hgw
      have c0 := cell_n HH9.out 0 (v := .int .i64 z0) rfl
      have c1 := cell_n HH9.out 1 (v := .int .i64 0) rfl
      have c2 := cell_n HH9.out 2 (v := .int .i64 0) rfl
      have f1 := free_n HH9.out 1
      have f2 := free_n HH9.out 2
      have r0 := cell_n HWa.out 0 (v := .int .i64 0) rfl
      have r1 := cell_n HWa.out 1 (v := .int .i64 0) rfl
      have r2 := cell_n HWa.out 2 (v := .int .i64 0) rfl
      have fr0 := free_n HWa.out 0
      have fr1 := free_n HWa.out 1
      have fr2 := free_n HWa.out 2
      clear hW9a hW9b hH9 hbH hgw k0
      cases hm : amountB 999999999 x0 with
      | none =>
        have hz : z0 = -1 := by have := Hz0.out; rw [hm] at this; exact this
        have q0 : decide (z0 < 0) = true := decide_eq_true (by omega)
        have Hh : Hid (heldV s = (0, 0, 0)) := by show _ = _; rw [Hdoc.out, hm]
        clear hm hz
        obtain ⟨W9, h9, hR9, hp9⟩ := HRes.out WH HWa.out HWb.out (0) (0) (0) (HCz.out Hh.out)
        have HR9 := Lib.hid hR9
        have Hp9 := Lib.hid hp9
        have H9 := Lib.hid h9
        clear hR9 hp9 h9
        go_wp2_with fail
        change bodyPost _ _ _ Exit.ret _ (setFrom WH R 0 [.int .i64 0, .int .i64 0, .int .i64 0])
        rw [← H9.out]
        exact bodyPost_ret (results_one_row rfl _ W9 R 49 _ (0, 0) _ rfl HR9.out Tryd.underlying49 rfl size_heldT) rfl Hp9.out
      | some n =>
        have hz : z0 = (n : Int) := by have := Hz0.out; rw [hm] at this; exact this
        have q0 : decide (z0 < 0) = false := decide_eq_false (by omega)
        have Hd2 : Hid (heldV s = if dn.length ≠ 1 ∧ dn.length ≠ 3 then (0, 0, 0) else if dn.length = 3 then (match amountB 999 (dn.getD 1 []), amountB 999999999 (dn.getD 2 []) with
              | some b, some t => if b < 1 then (0, 0, 0) else (n, b, t)
              | _, _ => (0, 0, 0)) else (n, 0, 0)) := by
          show _ = _
          rw [Hdoc.out, hm]
          rfl
        have Hzn := Lib.hid hz
        clear hm hz
        by_cases h1 : dn.length = 1
        · have q1 : ((dn.length : Int) != 1) = false := by rw [bne_eq_false_iff_eq]; omega
          have q3 : ((dn.length : Int) == 3) = false := beq_eq_false_iff_ne.2 (by omega)
          have Hh : Hid (heldV s = (n, 0, 0)) := by show _ = _; rw [Hd2.out, if_neg (fun h => h.1 h1), if_neg (by omega)]
          clear h1
          obtain ⟨W9, h9, hR9, hp9⟩ := HRes.out WH HWa.out HWb.out (z0) (0) (0) (by rw [Hzn.out]; exact HCn.out _ _ _ Hh.out)
          have HR9 := Lib.hid hR9
          have Hp9 := Lib.hid hp9
          have H9 := Lib.hid h9
          clear hR9 hp9 h9
          go_wp2_with fail
          change bodyPost _ _ _ Exit.ret _ (setFrom WH R 0 [.int .i64 z0, .int .i64 0, .int .i64 0])
          rw [← H9.out]
          exact bodyPost_ret (results_one_row rfl _ W9 R 49 _ (0, 0) _ rfl HR9.out Tryd.underlying49 rfl size_heldT) rfl Hp9.out
        · have q1 : ((dn.length : Int) != 1) = true := by rw [bne_iff_ne]; omega
          by_cases h3 : dn.length = 3
          · have q3 : ((dn.length : Int) != 3) = false := by rw [bne_eq_false_iff_eq]; omega
            have q3' : ((dn.length : Int) == 3) = true := beq_iff_eq.2 (by omega)
            have hj1 : 1 < dn.length := by omega
            have hj2 : 2 < dn.length := by omega
            have k1 := HcG.out 1 hj1
            have k2 := HcG.out 2 hj2
            have g1 : dn.getD 1 [] = dn[1]'hj1 := by simp [List.getD, List.getElem?_eq_getElem hj1]
            have g2 : dn.getD 2 [] = dn[2]'hj2 := by simp [List.getD, List.getElem?_eq_getElem hj2]
            have HA1 := Lib.hid (fun w1 => amount_law (dn[1]'hj1) 999 (by decide) (Hlm.out _ (List.getElem_mem hj1)) w1)
            have HA2 := Lib.hid (fun w1 => amount_law (dn[2]'hj2) 999999999 (by decide) (Hlm.out _ (List.getElem_mem hj2)) w1)
            have hd3 := Hd2.out
            rw [if_neg (fun h => h.2 h3), if_pos h3, g1, g2] at hd3
            obtain ⟨x1, hx1⟩ := hide (dn[1]'hj1)
            obtain ⟨x2, hx2⟩ := hide (dn[2]'hj2)
            rw [hx1.out] at k1 HA1
            rw [hx2.out] at k2 HA2
            rw [hx1.out, hx2.out] at hd3
            have hz1 : amountV 999 x1 = match amountB 999 x1 with | none => -1 | some n => (n : Int) := rfl
            have hz2 : amountV 999999999 x2 = match amountB 999999999 x2 with | none => -1 | some n => (n : Int) := rfl
            obtain ⟨z1, hzz1⟩ := hide (amountV 999 x1)
            obtain ⟨z2, hzz2⟩ := hide (amountV 999999999 x2)
            rw [hzz1.out] at HA1 hz1
            rw [hzz2.out] at HA2 hz2
            have Hz1 := Lib.hid hz1
            have Hz2 := Lib.hid hz2
            have Hd3 := Lib.hid hd3
            have k2' : (WH.setCell ⟨H, 1, none⟩ (.int .i64 z1)).cell? ⟨g, 2, none⟩ = some (str x2) := ((setFrom_below (B := H) (b := H) (Nat.le_refl _) [.int .i64 z1] WH 1 (Below.refl H WH)).cell (p := ⟨g, 2, none⟩) HgH.out).trans k2
            have Hl3 : Hid ((0 : Int) < (dn.length : Int) ∧ (1 : Int) < (dn.length : Int) ∧ (2 : Int) < (dn.length : Int)) := ⟨by omega, by omega, by omega⟩
            have q5 : decide (1 < dn.length) = true := decide_eq_true (by omega)
            have q6 : decide (2 < dn.length) = true := decide_eq_true (by omega)
            clear hz1 hz2 hd3 h1 h3 g1 g2 r0 r1 r2 fr0 fr1 fr2
            go_wp2_with fail
            refine (HA1.out _).mono ?_
            rintro e w5 ⟨rfl, rfl⟩
            dsimp only
            go_wp2_with fail
            refine (HA2.out _).mono ?_
            rintro e w5 ⟨rfl, rfl⟩
            dsimp only
            go_upto_region 15 with fail
            show Code.wp _ _ _ _ (setFrom WH H 1 [.int .i64 z1, .int .i64 z2])
            have hcR : (setFrom WH H 1 [.int .i64 z1, .int .i64 z2]).heap[R]? = some (.cells #[.int .i64 0, .int .i64 0, .int .i64 0] 49 (0, 0)) := (setFrom_other (by have := HRH.out; omega) _ _ _).trans HWa.out
            have hcB : Below w.heap.size w (setFrom WH H 1 [.int .i64 z1, .int .i64 z2]) := setFrom_below (by have := HRH.out; have := HRs.out; omega) _ _ _ HWb.out
            have hcH : (setFrom WH H 1 [.int .i64 z1, .int .i64 z2]).heap[H]? = some (.cells #[.int .i64 z0, .int .i64 z1, .int .i64 z2] 49 (0, 0)) := setFrom_heap H _ [.int .i64 z1, .int .i64 z2] WH [.int .i64 z0] [.int .i64 0, .int .i64 0] HH9.out rfl
            obtain ⟨WS, hWS⟩ := hide (setFrom WH H 1 [.int .i64 z1, .int .i64 z2])
            rw [hWS.out] at hcR hcB hcH
            rw [hWS.out]
            have HcR := Lib.hid hcR
            have HcB := Lib.hid hcB
            clear c0 c1 c2 f1 f2 k1 k2 k2'
            have c0 := cell_n hcH 0 (v := .int .i64 z0) rfl
            have c1 := cell_n hcH 1 (v := .int .i64 z1) rfl
            have c2 := cell_n hcH 2 (v := .int .i64 z2) rfl
            have r0 := cell_n hcR 0 (v := .int .i64 0) rfl
            have r1 := cell_n hcR 1 (v := .int .i64 0) rfl
            have r2 := cell_n hcR 2 (v := .int .i64 0) rfl
            have fr0 := free_n hcR 0
            have fr1 := free_n hcR 1
            have fr2 := free_n hcR 2
            clear hcR hcB hcH
            by_cases hz1 : z1 < 1
            · have q7 : decide (z1 < 1) = true := decide_eq_true hz1
              have Hh : Hid (heldV s = (0, 0, 0)) := by
                show _ = _
                rw [Hd3.out]
                have e1 := Hz1.out
                cases ha : amountB 999 x1 with
                | none => rfl
                | some b => cases hb : amountB 999999999 x2 with
                  | none => rfl
                  | some t =>
                    rw [ha] at e1
                    exact if_pos (by dsimp only at e1; omega)
              clear hz1
              obtain ⟨W9, h9, hR9, hp9⟩ := HRes.out WS HcR.out HcB.out (0) (0) (0) (HCz.out Hh.out)
              have HR9 := Lib.hid hR9
              have Hp9 := Lib.hid hp9
              have H9 := Lib.hid h9
              clear hR9 hp9 h9
              go_wp2_with fail
              change bodyPost _ _ _ Exit.ret _ (setFrom WS R 0 [.int .i64 0, .int .i64 0, .int .i64 0])
              rw [← H9.out]
              exact bodyPost_ret (results_one_row rfl _ W9 R 49 _ (0, 0) _ rfl HR9.out Tryd.underlying49 rfl size_heldT) rfl Hp9.out
            · have q7 : decide (z1 < 1) = false := decide_eq_false hz1
              have Hn1 : Hid (∃ b : Nat, amountB 999 x1 = some b ∧ z1 = (b : Int) ∧ ¬ b < 1) := by
                show ∃ b, _
                have e1 := Hz1.out
                cases ha : amountB 999 x1 with
                | none => rw [ha] at e1; dsimp only at e1; omega
                | some b => rw [ha] at e1; dsimp only at e1; exact ⟨b, rfl, e1, by omega⟩
              obtain ⟨b, hb1, hb2, hb3⟩ := Hn1.out
              have Hb1 := Lib.hid hb1
              have Hb2 := Lib.hid hb2
              have Hb3 := Lib.hid hb3
              clear hb1 hb2 hb3 hz1 Hn1
              by_cases hz2 : z2 < 0
              · have q8 : decide (z2 < 0) = true := decide_eq_true hz2
                have Hh : Hid (heldV s = (0, 0, 0)) := by
                  show _ = _
                  rw [Hd3.out, Hb1.out]
                  have e2 := Hz2.out
                  cases hb : amountB 999999999 x2 with
                  | none => rfl
                  | some t => rw [hb] at e2; exact absurd hz2 (by rw [e2]; exact Int.not_lt.2 (Int.natCast_nonneg t))
                clear hz2
                obtain ⟨W9, h9, hR9, hp9⟩ := HRes.out WS HcR.out HcB.out (0) (0) (0) (HCz.out Hh.out)
                have HR9 := Lib.hid hR9
                have Hp9 := Lib.hid hp9
                have H9 := Lib.hid h9
                clear hR9 hp9 h9
                go_wp2_with fail
                change bodyPost _ _ _ Exit.ret _ (setFrom WS R 0 [.int .i64 0, .int .i64 0, .int .i64 0])
                rw [← H9.out]
                exact bodyPost_ret (results_one_row rfl _ W9 R 49 _ (0, 0) _ rfl HR9.out Tryd.underlying49 rfl size_heldT) rfl Hp9.out
              · have q8 : decide (z2 < 0) = false := decide_eq_false hz2
                have Hh : Hid (heldC s = [.int .i64 z0, .int .i64 z1, .int .i64 z2]) := by
                  show _ = _
                  have e2 := Hz2.out
                  cases hb : amountB 999999999 x2 with
                  | none => rw [hb] at e2; dsimp only at e2; omega
                  | some t =>
                    rw [hb] at e2
                    have hh : heldV s = (n, b, t) := by rw [Hd3.out, Hb1.out, hb]; exact if_neg Hb3.out
                    rw [HCn.out n b t hh, Hzn.out, Hb2.out, e2]
                clear hz2
                obtain ⟨W9, h9, hR9, hp9⟩ := HRes.out WS HcR.out HcB.out (z0) (z1) (z2) (Hh.out)
                have HR9 := Lib.hid hR9
                have Hp9 := Lib.hid hp9
                have H9 := Lib.hid h9
                clear hR9 hp9 h9
                go_wp2_with fail
                change bodyPost _ _ _ Exit.ret _ (setFrom WS R 0 [.int .i64 z0, .int .i64 z1, .int .i64 z2])
                rw [← H9.out]
                exact bodyPost_ret (results_one_row rfl _ W9 R 49 _ (0, 0) _ rfl HR9.out Tryd.underlying49 rfl size_heldT) rfl Hp9.out
          · have q3 : ((dn.length : Int) != 3) = true := by rw [bne_iff_ne]; omega
            have Hh : Hid (heldV s = (0, 0, 0)) := by show _ = _; rw [Hd2.out, if_pos ⟨h1, h3⟩]
            clear h1 h3
            obtain ⟨W9, h9, hR9, hp9⟩ := HRes.out WH HWa.out HWb.out (0) (0) (0) (HCz.out Hh.out)
            have HR9 := Lib.hid hR9
            have Hp9 := Lib.hid hp9
            have H9 := Lib.hid h9
            clear hR9 hp9 h9
            go_wp2_with fail
            change bodyPost _ _ _ Exit.ret _ (setFrom WH R 0 [.int .i64 0, .int .i64 0, .int .i64 0])
            rw [← H9.out]
            exact bodyPost_ret (results_one_row rfl _ W9 R 49 _ (0, 0) _ rfl HR9.out Tryd.underlying49 rfl size_heldT) rfl Hp9.out
end Go.Proofs.YtnmlkoidmacinaaDoor
