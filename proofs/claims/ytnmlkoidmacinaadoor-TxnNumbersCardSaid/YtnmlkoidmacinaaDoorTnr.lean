/-
  Numbers of keys: the program's reading: a key's text.
-/
import Derived.Test.YtnmlkoidmacinaaDoorTnv
import Derived.Deep.DeepCutAuto
import Derived.RegionTactic
namespace Go.Proofs.YtnmlkoidmacinaaDoor
open Go.RowKit Wm Mm Tn
set_option linter.unusedVariables false
set_option linter.unusedSimpArgs false

theorem size_valueT : (Tryd.prog.info? 62).map (·.size) = some 3 := by kernel_rfl
theorem results_one_row {P : Program} {fn : Func} {p : Tmp} {ty : TypeId} (h : fn.results = #[.cell p ty]) (tmps : Array Value) (w : World) (g : Nat) (t : TypeId) (cs : Array Value) (fr : Nat × Nat) (d : TypeDesc)
    (hp : tmps.getD p undef = .pointer (some ⟨g, 0, none⟩)) (hg : w.heap[g]? = some (.cells cs t fr))
    (hu : P.underlying ty = some d) (hd : (match d with | .struct _ | .array _ _ => true | _ => false) = true) (hi : (P.info? ty).map (·.size) = some cs.size) :
    (results fn tmps).run P w = .ok (.agg cs) w := by
  have hp' : tmps[p]?.getD undef = .pointer (some ⟨g, 0, none⟩) := by simpa using hp
  simp [results, h, hp', asAddr, run_loadVar_row w g t ty cs fr d hg hu hd hi]
/-- how the loop's world stands -/
def RdW (w wr : World) (R L V Q : Nat) (l : List (List UInt8)) (xs : List Value) : Prop :=
  wr.heap[R]? = some (.cells #[.int .i64 0, .int .i64 0, .int .i64 0] 62 (0, 0)) ∧ wr.heap[L]? = some (.cells (l.map str).toArray 9 (0, 0)) ∧ wr.heap[V]? = some (.cells xs.toArray 62 (0, 0)) ∧
  wr.heap[Q]? = some (.cells #[.pointer (some ⟨V, 0, none⟩), .pointer (some ⟨V, 1, none⟩), .pointer (some ⟨V, 2, none⟩)] 84 (0, 0)) ∧ Below w.heap.size w wr
theorem RdW.below {w wr w' : World} {R L V Q : Nat} {l : List (List UInt8)} {xs : List Value} (h : RdW w wr R L V Q l xs) (hb : Below wr.heap.size wr w') : RdW w w' R L V Q l xs := by
  obtain ⟨h1, h2, h3, h4, h5⟩ := h
  exact ⟨(hb.block R (lt_of_block h1)).trans h1, (hb.block L (lt_of_block h2)).trans h2, (hb.block V (lt_of_block h3)).trans h3, (hb.block Q (lt_of_block h4)).trans h4, h5.trans (hb.mono h5.size)⟩
theorem at_setT {w : World} {b i : Nat} {xs : List Value} {t : TypeId} (h : w.heap[b]? = some (.cells xs.toArray t (0, 0))) (v : Value) : (w.setCell ⟨b, i, none⟩ v).heap[b]? = some (.cells (xs.set i v).toArray t (0, 0)) := by
  rw [heap_setCell, if_pos rfl, h]
  simp [storeIn]
theorem RdW.put {w wr : World} {R L V Q : Nat} {l : List (List UInt8)} {xs : List Value} (h : RdW w wr R L V Q l xs) (k : Nat) (v : Value) (h1 : R ≠ V) (h2 : L ≠ V) (h3 : Q ≠ V) (h4 : w.heap.size ≤ V) : RdW w (wr.setCell ⟨V, k, none⟩ v) R L V Q l (xs.set k v) := by
  obtain ⟨a1, a2, a3, a4, a5⟩ := h
  have hc : Chg (fun b => b = V) wr (wr.setCell ⟨V, k, none⟩ v) := Chg.setCell (F := fun b => b = V) (a := ⟨V, k, none⟩) wr rfl v
  exact ⟨hc.at a1 h1, hc.at a2 h2, at_setT a3 v, hc.at a4 h3, a5.trans (hc.toBelow (fun b hb => by omega) a5.size)⟩
theorem ma_cell (w : World) (k : Nat) (hk : k < 3) : (w.alloc (.cells #[.int .i64 999999999, .int .i64 999, .int .i64 999999999] 3)).cell? ⟨w.heap.size, k, none⟩ = some (.int .i64 ((mostAt k : Nat) : Int)) := by
  have h := hp_at w (.cells #[.int .i64 999999999, .int .i64 999, .int .i64 999999999] 3) (k := w.heap.size) rfl
  match k, hk with
  | 0, _ => exact cell_n h 0 rfl
  | 1, _ => exact cell_n h 1 rfl
  | 2, _ => exact cell_n h 2 rfl
theorem mostAt_le (k : Nat) : mostAt k ≤ 999999999 := by unfold mostAt; split <;> decide
set_option maxHeartbeats 4000000 in
set_option maxRecDepth 100000 in
theorem read_law (s : List UInt8) (hs : s.length ≤ 1048576) (w : World) (hv : VarsOk w) :
    Calls Tryd.prog 19 #[str s] w fun e w' => e = .returned (.agg (heldC s).toArray) ∧ Below w.heap.size w w' := by
  obtain ⟨post, HP⟩ := hide (fun (e : Ending) (w' : World) => e = .returned (.agg (heldC s).toArray) ∧ Below w.heap.size w w')
  rw [HP.out]
  have HV : Hid (∀ w', Below w.heap.size w w' → VarsOk w') := fun w' hb => hv.below hb
  have HSp : Hid (∀ w1, Below w.heap.size w w1 → Calls Tryd.prog 40 #[str s, str [32]] w1 fun e w' => e = .returned (.slice (some ⟨w1.heap.size, 0, none⟩) (spc [] s).length (spc [] s).length) ∧ w' = w1.alloc (.cells ((spc [] s).map str).toArray 9)) := fun w1 hb => split_law s hs w1 (hv.below hb)
  have HEnd : Hid (∀ ok xs, RdInv (spc [] s) 3 ok xs → ok = okK (spc [] s) 3 ∧ ∃ a b c : Int, xs = [.int .i64 a, .int .i64 b, .int .i64 c] ∧ (ok = true → b = (((valAt (spc [] s) 1).getD 0 : Nat) : Int)) ∧
    (ok = true → ¬ ((spc [] s).length = 3 ∧ b = 0) → heldC s = [.int .i64 a, .int .i64 b, .int .i64 c]) ∧ (ok = false ∨ ((spc [] s).length = 3 ∧ b = 0) → heldC s = [.int .i64 0, .int .i64 0, .int .i64 0])) := fun ok xs h => h.end
  have HLm : Hid (∀ x ∈ spc [] s, x.length ≤ 1048576) := fun x hx => Nat.le_trans (spc_len s [] x hx) (by simpa using hs)
  obtain ⟨l, hl⟩ := hide (spc [] s)
  rw [hl.out] at HSp HEnd HLm
  have Hlen : Hid (l.length ≤ 1048577) := by show _ ≤ _; rw [← hl.out]; have := spc_num s []; omega
  clear hv hl
  go_enter Tryd.func19, Tryd.ntmps19
  have hb1 : Below w.heap.size w (w.alloc (.cells #[.int .i64 0, .int .i64 0, .int .i64 0] 62)) := (Below.refl _ _).alloc (Nat.le_refl _) _
  have hr1 := hp_at w (.cells #[.int .i64 0, .int .i64 0, .int .i64 0] 62) (k := w.heap.size) rfl
  go_upto_region 1 with fail
  obtain ⟨W1, hW1⟩ := hide (w.alloc (.cells #[.int .i64 0, .int .i64 0, .int .i64 0] 62))
  have hs1 : W1.heap.size = w.heap.size + 1 := by rw [← hW1.out]; simp
  rw [hW1.out] at hb1 hr1
  rw [hW1.out]
  have HSp1 := Lib.hid (HSp.out W1 hb1)
  obtain ⟨R, hR⟩ := hide w.heap.size
  rw [hR.out] at hr1
  rw [hR.out]
  obtain ⟨L, hL⟩ := hide W1.heap.size
  rw [hL.out] at HSp1
  have hb2 : Below W1.heap.size W1 (W1.alloc (.cells (l.map str).toArray 9)) := (Below.refl _ _).alloc (Nat.le_refl _) _
  have hr2 := hp_at W1 (.cells (l.map str).toArray 9) (k := W1.heap.size) rfl
  obtain ⟨W2, hW2⟩ := hide (W1.alloc (.cells (l.map str).toArray 9))
  have hs2 : W2.heap.size = w.heap.size + 2 := by rw [← hW2.out, World.size_alloc, hs1]
  rw [hW2.out] at hb2 hr2 HSp1
  rw [hL.out] at hr2
  have hr12 := (hb2.block R (by have := hR.out; omega)).trans hr1
  have hb3 : Below W2.heap.size W2 (W2.alloc (.cells #[.int .i64 0, .int .i64 0, .int .i64 0] 62)) := (Below.refl _ _).alloc (Nat.le_refl _) _
  have hr3 := hp_at W2 (.cells #[.int .i64 0, .int .i64 0, .int .i64 0] 62) (k := W2.heap.size) rfl
  obtain ⟨W3, hW3⟩ := hide (W2.alloc (.cells #[.int .i64 0, .int .i64 0, .int .i64 0] 62))
  have hs3 : W3.heap.size = w.heap.size + 3 := by rw [← hW3.out, World.size_alloc, hs2]
  rw [hW3.out] at hb3 hr3
  have hr13 := (hb3.block R (by have := hR.out; omega)).trans hr12
  have hr23 := (hb3.block L (by have := hL.out; omega)).trans hr2
  obtain ⟨V, hV⟩ := hide W2.heap.size
  rw [hV.out] at hr3
  have hb4 : Below W3.heap.size W3 (W3.alloc (.cells #[.pointer (some ⟨V, 0, none⟩), .pointer (some ⟨V, 1, none⟩), .pointer (some ⟨V, 2, none⟩)] 84)) := (Below.refl _ _).alloc (Nat.le_refl _) _
  have hr4 := hp_at W3 (.cells #[.pointer (some ⟨V, 0, none⟩), .pointer (some ⟨V, 1, none⟩), .pointer (some ⟨V, 2, none⟩)] 84) (k := W3.heap.size) rfl
  obtain ⟨W4, hW4⟩ := hide (W3.alloc (.cells #[.pointer (some ⟨V, 0, none⟩), .pointer (some ⟨V, 1, none⟩), .pointer (some ⟨V, 2, none⟩)] 84))
  rw [hW4.out] at hb4 hr4
  obtain ⟨Q, hQ⟩ := hide W3.heap.size
  rw [hQ.out] at hr4
  have hsz : R = w.heap.size ∧ L = w.heap.size + 1 ∧ V = w.heap.size + 2 ∧ Q = w.heap.size + 3 := ⟨hR.out.symm, by rw [← hL.out]; exact hs1, by rw [← hV.out]; exact hs2, by rw [← hQ.out]; exact hs3⟩
  have HSz := Lib.hid hsz
  have HW4 : Hid (RdW w W4 R L V Q l [.int .i64 0, .int .i64 0, .int .i64 0]) := ⟨(hb4.block R (by omega)).trans hr13, (hb4.block L (by omega)).trans hr23, (hb4.block V (by omega)).trans hr3, hr4, ((hb1.trans (hb2.mono (by omega))).trans (hb3.mono (by omega))).trans (hb4.mono (by omega))⟩
  clear hb1 hr1 hs1 hb2 hr2 hs2 hr12 hb3 hr3 hs3 hr13 hr23 hb4 hr4 hsz
  go_wp2_with fail
  refine HSp1.out.mono ?_
  rintro e w2 ⟨rfl, rfl⟩
  dsimp only
  go_upto_region 3 with fail
  show Code.wp _ _ _ _ (w2.alloc (.cells #[.int .i64 0, .int .i64 0, .int .i64 0] 62))
  rw [hW3.out, hV.out]
  try dsimp only
  go_cut [5] from 11 to 18 (fun c5 wx => c5 = .bool (okLen l) ∧ wx = W3)
  case first =>
    by_cases h1 : l.length = 1
    · have t1 : ((l.length : Int) == 1) = true := beq_iff_eq.2 (by omega)
      have HO : Hid (okLen l = true) := by show _ = _; unfold okLen; rw [decide_eq_true h1]; rfl
      clear h1
      go_wp2_with fail
      go_meet
      rw [HO.out]
      exact ⟨rfl, rfl⟩
    · have t1 : ((l.length : Int) == 1) = false := beq_eq_false_iff_ne.2 (by omega)
      by_cases h3 : l.length = 3
      · have t3 : ((l.length : Int) == 3) = true := beq_iff_eq.2 (by omega)
        have HO : Hid (okLen l = true) := by show _ = _; unfold okLen; rw [decide_eq_true h3]; simp
        clear h1 h3
        go_wp2_with fail
        go_meet
        rw [HO.out]
        exact ⟨rfl, rfl⟩
      · have t3 : ((l.length : Int) == 3) = false := beq_eq_false_iff_ne.2 (by omega)
        have HO : Hid (okLen l = false) := by show _ = _; unfold okLen; rw [decide_eq_false h3, decide_eq_false h1]; rfl
        clear h1 h3
        go_wp2_with fail
        go_meet
        rw [HO.out]
        exact ⟨rfl, rfl⟩
  case rest =>
    obtain ⟨rfl, hwc⟩ := hcut
    subst hwc
    go_upto_region 5 with fail
    show Code.wp _ _ _ _ (wc.alloc (.cells #[.pointer (some ⟨V, 0, none⟩), .pointer (some ⟨V, 1, none⟩), .pointer (some ⟨V, 2, none⟩)] 84))
    rw [hW4.out, hQ.out]
    go_loopw [5, 24] (fun s5 s24 wr => ∃ (k : Nat) (ok : Bool) (xs : List Value), s24 = .int .i64 (k : Int) ∧ s5 = .bool ok ∧ k ≤ 3 ∧ Hid (RdInv l k ok xs) ∧ Hid (RdW w wr R L V Q l xs)) (fun _ s24 _ => 3 - (intOf s24).toNat)
    case atStart => exact ⟨0, _, _, rfl, rfl, Nat.zero_le _, RdInv.zero l, HW4⟩
    case round =>
      obtain ⟨k, ok, xs, rfl, rfl, hk, hI, hW⟩ := hrel
      by_cases hk3 : k < 3
      · have t0 : decide ((k : Int) < 3) = true := decide_eq_true (by omega)
        have t0n : decide (k < 3) = true := decide_eq_true hk3
        have hq : wr.cell? ⟨Q, k, none⟩ = some (.pointer (some ⟨V, k, none⟩)) := by
          have h := hW.out.2.2.2.1
          match k, hk3 with
          | 0, _ => exact cell_n h 0 rfl
          | 1, _ => exact cell_n h 1 rfl
          | 2, _ => exact cell_n h 2 rfl
        have Hk1 : Hid (k + 1 ≤ 3) := hk3
        by_cases hlen : k < l.length
        · have t1 : decide ((k : Int) < (l.length : Int)) = true := decide_eq_true (by omega)
          have t1n : decide (k < l.length) = true := decide_eq_true hlen
          cases ok with
          | false =>
            have HI2 := Lib.hid (hI.out.skip (Or.inr rfl))
            clear hlen
            go_wp2_with fail
            go_roundw
            case rel => exact ⟨k + 1, false, xs, by go_num, by first | rfl | trivial, Hk1.out, HI2, hW⟩
            case measure => simp [intOf]; omega
          | true =>
            obtain ⟨x, hx⟩ := hide l[k]
            have Hxl : Hid (x.length ≤ 1048576) := by show _ ≤ _; rw [← hx.out]; exact HLm.out _ (List.getElem_mem hlen)
            have HSt : Hid (∀ n : Int, (∀ m : Nat, amountB (mostAt k) x = some m → n = m) → RdInv l (k + 1) (amountB (mostAt k) x).isSome (xs.set k (.int .i64 n))) := by
              show ∀ n, _ → _
              intro n hn
              rw [← hx.out] at hn ⊢
              exact hI.out.step hlen hk3 hn
            have HCl : Hid (∀ w', Below wr.heap.size wr w' → w'.cell? ⟨L, k, none⟩ = some (str x)) := by
              show ∀ w', _ → _
              intro w' hb
              have h := (hW.out.below hb).2.1
              rw [← hx.out]
              exact cell_n h k (by rw [List.getElem?_toArray, List.getElem?_map, List.getElem?_eq_getElem hlen]; rfl)
            have HN : Hid (∀ w1, Below wr.heap.size wr w1 → Calls Tryd.prog 41 #[str x, .int .i64 ((mostAt k : Nat) : Int)] w1 fun e w' => (∃ n : Int, e = .returned (.tuple #[.int .i64 n, .bool (amountB (mostAt k) x).isSome]) ∧ ∀ m : Nat, amountB (mostAt k) x = some m → n = m) ∧ Below w1.heap.size w1 w') := by
              show ∀ w1, _ → _
              intro w1 hb
              exact number_law x (mostAt k) (mostAt_le k) Hxl.out w1 (HV.out w1 (hW.out.2.2.2.2.trans (hb.mono hW.out.2.2.2.2.size)))
            obtain ⟨mo, hmo⟩ := hide ((mostAt k : Nat) : Int)
            obtain ⟨bo, hbo⟩ := hide (amountB (mostAt k) x).isSome
            rw [hmo.out, hbo.out] at HN
            rw [hbo.out] at HSt
            have HD0 : Hid (Below wr.heap.size wr wr.drew) := (Below.refl _ _).drew
            have HD1 : Hid (Below wr.heap.size wr ((wr.alloc (.cells #[.int .i64 999999999, .int .i64 999, .int .i64 999999999] 3)).drew)) := ((Below.refl _ _).alloc (Nat.le_refl _) _).drew
            have l0 := HCl.out _ HD0.out
            have l1 := HCl.out _ HD1.out
            have m1 : ((wr.alloc (.cells #[.int .i64 999999999, .int .i64 999, .int .i64 999999999] 3)).drew).cell? ⟨wr.heap.size, k, none⟩ = some (.int .i64 mo) := by rw [← hmo.out]; exact ma_cell wr k hk3
            have HVc : Hid (∀ w', Below wr.heap.size wr w' → (∃ v, w'.cell? ⟨V, k, none⟩ = some v) ∧ w'.frozen? ⟨V, k, none⟩ = false) := by
              show ∀ w', _ → _
              intro w' hb
              have h := (hW.out.below hb).2.2.1
              obtain ⟨_, ⟨a, b, c, rfl⟩, _⟩ := hI.out
              match k, hk3 with
              | 0, _ => exact ⟨⟨_, cell_n h 0 rfl⟩, free_n h 0⟩
              | 1, _ => exact ⟨⟨_, cell_n h 1 rfl⟩, free_n h 1⟩
              | 2, _ => exact ⟨⟨_, cell_n h 2 rfl⟩, free_n h 2⟩
            have hki : (k : Int) < 3 := by omega
            have hli : (k : Int) < (l.length : Int) := by omega
            go_upto_region 8 with fail
            clear hq
            go_region_law (go_simp; go_at_call 41; (with_reducible refine (HN.out _ HD1.out).mono ?_); rintro e w5 ⟨⟨n, rfl, hn⟩, hb5⟩; have Hn5 := Lib.hid (HSt.out n hn); have Hb5 := Lib.hid (HD1.out.trans (hb5.mono HD1.out.size)); have v5 := HVc.out _ Hb5.out; obtain ⟨⟨vv, v5c⟩, v5f⟩ := v5; clear hn hb5 l0 l1 m1)
            all_goals
              go_wp2_with fail
              go_roundw
              case rel => exact ⟨k + 1, bo, xs.set k (.int .i64 n), by go_num, by first | rfl | trivial, Hk1.out, Hn5, (hW.out.below Hb5.out).put k _ (by have := HSz.out; omega) (by have := HSz.out; omega) (by have := HSz.out; omega) (by have := HSz.out; omega)⟩
              case measure => simp [intOf]; omega
        · have t1 : decide ((k : Int) < (l.length : Int)) = false := decide_eq_false (by omega)
          have t1n : decide (k < l.length) = false := decide_eq_false hlen
          have HI2 := Lib.hid (hI.out.skip (Or.inl (by omega)))
          clear hlen
          cases ok with
          | false =>
            go_wp2_with fail
            go_roundw
            case rel => exact ⟨k + 1, false, xs, by go_num, by first | rfl | trivial, Hk1.out, HI2, hW⟩
            case measure => simp [intOf]; omega
          | true =>
            go_wp2_with fail
            go_roundw
            case rel => exact ⟨k + 1, true, xs, by go_num, by first | rfl | trivial, Hk1.out, HI2, hW⟩
            case measure => simp [intOf]; omega
      · have t0 : decide ((k : Int) < 3) = false := decide_eq_false (by omega)
        obtain rfl : k = 3 := by omega
        obtain ⟨ho, a, b, c, rfl, hb1, hb2, hb3⟩ := HEnd.out _ _ hI.out
        have H2 := Lib.hid hb2
        have H3 := Lib.hid hb3
        clear ho hb1 hb2 hb3
        have hWr := hW.out.1
        have hWv := hW.out.2.2.1
        have r0 := cell_n hWr 0 (v := .int .i64 0) rfl
        have r1 := cell_n hWr 1 (v := .int .i64 0) rfl
        have r2 := cell_n hWr 2 (v := .int .i64 0) rfl
        have f0 := free_n hWr 0
        have f1 := free_n hWr 1
        have f2 := free_n hWr 2
        have va := cell_n hWv 0 (v := .int .i64 a) rfl
        have vb := cell_n hWv 1 (v := .int .i64 b) rfl
        have vc := cell_n hWv 2 (v := .int .i64 c) rfl
        have HRes : Hid (∀ x y z : Int, heldC s = [.int .i64 x, .int .i64 y, .int .i64 z] → ∃ W9, W9 = setFrom wr R 0 [.int .i64 x, .int .i64 y, .int .i64 z] ∧ W9.heap[R]? = some (.cells #[.int .i64 x, .int .i64 y, .int .i64 z] 62 (0, 0)) ∧ post (.returned (.agg #[.int .i64 x, .int .i64 y, .int .i64 z])) W9) := by
          show ∀ x y z, _ → _
          intro x y z hh
          refine ⟨_, rfl, setAll_at (xs := [.int .i64 0, .int .i64 0, .int .i64 0]) hW.out.1 _ rfl, ?_⟩
          rw [← HP.out]
          refine ⟨by rw [hh], setAll_below hW.out.2.2.2.2 (by have := HSz.out; omega) _⟩
        clear hWr hWv hI
        cases ok with
        | false =>
          obtain ⟨W9, h9, hR9, hp9⟩ := HRes.out 0 0 0 (H3.out (Or.inl rfl))
          have HR9 := Lib.hid hR9
          have Hp9 := Lib.hid hp9
          have H9 := Lib.hid h9
          clear hR9 hp9 h9
          go_wp2_with fail
          change bodyPost _ _ _ Exit.ret _ (setFrom wr R 0 [.int .i64 0, .int .i64 0, .int .i64 0])
          rw [← H9.out]
          exact bodyPost_ret (results_one_row rfl _ W9 R 62 _ (0, 0) _ rfl HR9.out Tryd.underlying62 rfl size_valueT) rfl Hp9.out
        | true =>
          by_cases hl3 : l.length = 3
          · have q1 : ((l.length : Int) == 3) = true := beq_iff_eq.2 (by omega)
            by_cases hb0 : b = 0
            · have q2 : (b == 0) = true := beq_iff_eq.2 hb0
              obtain ⟨W9, h9, hR9, hp9⟩ := HRes.out 0 0 0 (H3.out (Or.inr ⟨hl3, hb0⟩))
              have HR9 := Lib.hid hR9
              have Hp9 := Lib.hid hp9
              have H9 := Lib.hid h9
              clear hR9 hp9 h9 hb0 hl3
              go_wp2_with fail
              change bodyPost _ _ _ Exit.ret _ (setFrom wr R 0 [.int .i64 0, .int .i64 0, .int .i64 0])
              rw [← H9.out]
              exact bodyPost_ret (results_one_row rfl _ W9 R 62 _ (0, 0) _ rfl HR9.out Tryd.underlying62 rfl size_valueT) rfl Hp9.out
            · have q2 : (b == 0) = false := beq_eq_false_iff_ne.2 hb0
              obtain ⟨W9, h9, hR9, hp9⟩ := HRes.out a b c (H2.out rfl (fun h => hb0 h.2))
              have HR9 := Lib.hid hR9
              have Hp9 := Lib.hid hp9
              have H9 := Lib.hid h9
              clear hR9 hp9 h9 hb0 hl3
              go_wp2_with fail
              change bodyPost _ _ _ Exit.ret _ (setFrom wr R 0 [.int .i64 a, .int .i64 b, .int .i64 c])
              rw [← H9.out]
              exact bodyPost_ret (results_one_row rfl _ W9 R 62 _ (0, 0) _ rfl HR9.out Tryd.underlying62 rfl size_valueT) rfl Hp9.out
          · have q1 : ((l.length : Int) == 3) = false := beq_eq_false_iff_ne.2 (by omega)
            obtain ⟨W9, h9, hR9, hp9⟩ := HRes.out a b c (H2.out rfl (fun h => hl3 h.1))
            have HR9 := Lib.hid hR9
            have Hp9 := Lib.hid hp9
            have H9 := Lib.hid h9
            clear hR9 hp9 h9 hl3
            go_wp2_with fail
            change bodyPost _ _ _ Exit.ret _ (setFrom wr R 0 [.int .i64 a, .int .i64 b, .int .i64 c])
            rw [← H9.out]
            exact bodyPost_ret (results_one_row rfl _ W9 R 62 _ (0, 0) _ rfl HR9.out Tryd.underlying62 rfl size_valueT) rfl Hp9.out
end Go.Proofs.YtnmlkoidmacinaaDoor
