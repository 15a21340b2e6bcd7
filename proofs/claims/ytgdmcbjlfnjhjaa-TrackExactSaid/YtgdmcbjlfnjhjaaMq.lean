/-
  Quorums: are more than half of some among others? do two lists share a node of a third one?
-/
import Derived.Test.YtgdmcbjlfnjhjaaKnp
namespace Go.Proofs.Ytgdmcbjlfnjhjaa
open Go.RowKit Wm Mm
set_option linter.unusedVariables false
set_option linter.unusedSimpArgs false

theorem take_filter {l : List Int} {k : Nat} (h : k < l.length) (p : Int → Bool) : ((l.take (k + 1)).filter p).length = ((l.take k).filter p).length + (if p l[k] = true then 1 else 0) := by
  rw [filter_snoc h, List.length_append]
  by_cases hp : p l[k] = true
  · rw [if_pos hp, if_pos hp]; rfl
  · rw [if_neg hp, if_neg hp]; rfl
set_option maxHeartbeats 1000000 in
theorem most_law (v u : Value) (l am : List Int) (w : World) (hv : Ints w v l) (hu : Ints w u am) (hl : l.length ≤ 1099511627776) :
    Calls Try.prog 64 #[v, u] w fun e w' => e = .returned (.bool (mostB l am)) ∧ w = w' := by
  have HS := Lib.hid (fun x => slices_contains u am x w hu)
  obtain ⟨ao, cap, rfl, hc, _⟩ := hv
  have HC := Lib.hid hc
  obtain ⟨post, HP⟩ := hide (fun (e : Ending) (w' : World) => e = .returned (.bool (mostB l am)) ∧ w = w')
  rw [HP.out]
  clear hc hu
  go_enter Try.func64, Try.ntmps64
  go_wp2
  go_loopw [5, 10] (fun s i wr => ∃ k a : Nat, s = .int .i64 a ∧ i = .int .i64 k ∧ k ≤ l.length ∧ wr = w ∧ a ≤ k ∧ Hid (a = ((l.take k).filter (hasB am)).length)) (fun _ i _ => l.length - (intOf i).toNat)
  case atStart => exact ⟨0, 0, rfl, rfl, Nat.zero_le _, rfl, Nat.le_refl _, by show _ = _; simp⟩
  case round =>
    obtain ⟨k, a, rfl, rfl, hk, rfl, hak, Ha⟩ := hrel
    by_cases hlt : k < l.length
    · obtain ⟨b, off, rfl, hcell⟩ := HC.out (ints_ne' hlt)
      have hck := hcell k l[k] (by simp [hlt])
      have Hf := Lib.hid (take_filter hlt (hasB am))
      obtain ⟨x, hX⟩ := hide l[k]
      rw [hX.out] at hck Hf
      obtain ⟨z, hZ⟩ := hide (hasB am x)
      rw [hZ.out] at Hf
      have ha1 : a + 1 ≤ 1099511627777 := by omega
      have hk1 : k + 1 ≤ 1099511627777 := by omega
      clear hcell
      go_wp2_with fail
      refine (HS.out x).mono ?_
      rintro e w' ⟨rfl, rfl⟩
      rw [hZ.out]
      cases z
      · go_wp2_with fail
        go_roundw
        case rel => exact ⟨k + 1, a, rfl, by go_num, hlt, (by first | rfl | trivial), by omega, by show _ = _; rw [Hf.out, ← Ha.out]; rfl⟩
        case measure => simp [intOf]; omega
      · go_wp2_with fail
        go_roundw
        case rel => exact ⟨k + 1, a + 1, by go_num, by go_num, hlt, (by first | rfl | trivial), by omega, by show _ = _; rw [Hf.out, ← Ha.out]; rfl⟩
        case measure => simp [intOf]; omega
    · have hkn : k = l.length := by omega
      have hm : mostB l am = decide ((l.length : Int) < 2 * (a : Int)) := by
        have := Ha.out
        rw [hkn, List.take_length] at this
        unfold mostB
        rw [← this]
        exact decide_eq_decide.2 ⟨fun h => by omega, fun h => by omega⟩
      have ha2 : 2 * (a : Int) ≤ 2199023255552 := by omega
      have Hp : Hid (∀ z, mostB l am = z → post (.returned (.bool z)) wr) := by
        show ∀ z, _ → _
        intro z hz; rw [← HP.out, ← hz]; exact ⟨rfl, rfl⟩
      have Hm := Lib.hid hm
      clear hm
      obtain ⟨z, hZ⟩ := hide (decide ((l.length : Int) < 2 * (a : Int)))
      have hz := hZ.out
      have Hz := Lib.hid (Hp.out z (by rw [Hm.out, hz]))
      go_wp2_with fail
      first | exact Hz.out | (go_ret; exact Hz.out)
set_option maxHeartbeats 1000000 in
theorem keep_meet (va vb vm : Value) (a b m : List Int) (w : World) (ha : Ints w va a) (hb : Ints w vb b) (hm : Ints w vm m) :
    Calls Try.prog 17 #[va, vb, vm] w fun e w' => e = .returned (.bool (meetB a b m)) ∧ w = w' := by
  have HB := Lib.hid (fun x => keep_has vb b x w hb)
  have HM := Lib.hid (fun x => keep_has vm m x w hm)
  obtain ⟨ao, cap, rfl, hc, hmax⟩ := ha
  have HC := Lib.hid hc
  obtain ⟨post, HP⟩ := hide (fun (e : Ending) (w' : World) => e = .returned (.bool (meetB a b m)) ∧ w = w')
  rw [HP.out]
  have hn : a.length ≤ 9223372036854775807 := hmax
  clear hc hmax hb hm
  go_enter Try.func17, Try.ntmps17
  go_wp2
  go_loopw [7] (fun i wr => ∃ k : Nat, i = .int .i64 k ∧ k ≤ a.length ∧ wr = w ∧ Hid (∀ i x, i < k → a[i]? = some x → (hasB b x && hasB m x) = false)) (fun i _ => a.length - (intOf i).toNat)
  case atStart => exact ⟨0, rfl, Nat.zero_le _, rfl, fun i x h => by omega⟩
  case round =>
    obtain ⟨k, rfl, hk, rfl, hx⟩ := hrel
    by_cases hlt : k < a.length
    · obtain ⟨blk, off, rfl, hcell⟩ := HC.out (ints_ne' hlt)
      have hck := hcell k a[k] (by simp [hlt])
      have hak : a[k]? = some a[k] := List.getElem?_eq_getElem hlt
      have hmem : a[k] ∈ a := List.getElem_mem hlt
      obtain ⟨x, hX⟩ := hide a[k]
      rw [hX.out] at hck hak hmem
      have Hyes : Hid ((hasB b x && hasB m x) = true → post (.returned (.bool true)) wr) := by
        show _ → _
        intro h; rw [← HP.out]; exact ⟨by rw [show meetB a b m = true from by simp only [meetB, List.any_eq_true]; exact ⟨x, hmem, h⟩], rfl⟩
      have Hno : Hid ((hasB b x && hasB m x) = false → ∀ i y, i < k + 1 → a[i]? = some y → (hasB b y && hasB m y) = false) := by
        show _ → _
        intro h i y hi hy
        rcases Nat.lt_or_eq_of_le (Nat.le_of_lt_succ hi) with h1 | rfl
        · exact hx.out i y h1 hy
        · rw [hak] at hy; cases hy; exact h
      obtain ⟨z1, hZ1⟩ := hide (hasB b x)
      obtain ⟨z2, hZ2⟩ := hide (hasB m x)
      rw [hZ1.out, hZ2.out] at Hyes Hno
      have hk1 : k + 1 ≤ 9223372036854775807 := by omega
      clear hcell hmem hak
      go_wp2_with fail
      refine (HB.out x).mono ?_
      rintro e w' ⟨rfl, rfl⟩
      rw [hZ1.out]
      go_wp2_with fail
      refine (HM.out x).mono ?_
      rintro e w' ⟨rfl, rfl⟩
      rw [hZ2.out]
      cases z1 <;> cases z2
      all_goals
        go_wp2_with fail
        first
        | exact Hyes.out rfl
        | (go_ret; exact Hyes.out rfl)
        | skip
      all_goals
        go_roundw
        case rel => exact ⟨k + 1, by go_num, hlt, (by first | rfl | trivial), Hno.out rfl⟩
        case measure => simp [intOf]; omega
    · have hkn : k = a.length := by omega
      have Hp : Hid (post (.returned (.bool false)) wr) := by
        show post _ _
        rw [← HP.out]
        refine ⟨?_, rfl⟩
        rw [show meetB a b m = false from ?_]
        simp only [meetB, List.any_eq_false, Bool.not_eq_true]
        intro x hxm
        obtain ⟨i, hi, rfl⟩ := List.getElem_of_mem hxm
        exact hx.out i _ (by omega) (List.getElem?_eq_getElem hi)
      clear hkn
      go_wp2_with fail
      first | exact Hp.out | (go_ret; exact Hp.out)
set_option maxHeartbeats 1000000 in
theorem config_joint (a b d : Value) (c : Conf) (w : World) (hc : Config3 w a b d c) :
    Calls Try.prog 19 #[.agg #[a, b, d]] w fun e w' => e = .returned (.bool (decide (0 < c.n.length))) ∧ Below w.heap.size w w' := by
  obtain ⟨post, HP⟩ := hide (fun (e : Ending) (w' : World) => e = .returned (.bool (decide (0 < c.n.length))) ∧ Below w.heap.size w w')
  rw [HP.out]
  have hb1 : Below w.heap.size w (w.alloc (.cells #[a, b, d] 25)) := (Below.refl _ _).alloc (Nat.le_refl _) _
  obtain ⟨bo, cb, rfl, hlb⟩ := len_of_Ints hc.n
  obtain ⟨W, hW⟩ := hide (w.alloc (.cells #[a, .slice bo c.n.length cb, d] 25))
  have hx : W.heap[w.heap.size]? = some (.cells #[a, .slice bo c.n.length cb, d] 25 (0, 0)) := by rw [← hW.out]; exact hp_at _ _ rfl
  rw [hW.out] at hb1
  obtain ⟨B, hB⟩ := hide w.heap.size
  rw [hB.out] at hx
  have c1 : W.cell? ⟨B, 1, none⟩ = some (.slice bo c.n.length cb) := cell_n hx 1 rfl
  obtain ⟨n, hn⟩ := hide c.n.length
  obtain ⟨z, hZ⟩ := hide (decide (0 < n))
  have Hp : Hid (post (.returned (.bool z)) W) := by
    show post _ _
    rw [← HP.out]
    exact ⟨by rw [hn.out, hZ.out], hb1⟩
  have hz := hZ.out
  rw [hn.out] at c1 ⊢
  rw [hn.out] at hW
  clear hx hb1 hc
  go_enter Try.func19, Try.ntmps19
  go_wp2_with fail
  rw [hW.out, hB.out]
  go_wp2_with fail
  first | exact Hp.out | (go_ret; exact Hp.out)
set_option maxHeartbeats 2000000 in
theorem quorum_law (a b d u : Value) (c : Conf) (hv : List Int) (w : World) (hc : Config3 w a b d c) (hu : Ints w u hv) (h1 : c.v.length ≤ 1099511627776) (h2 : c.n.length ≤ 1099511627776) :
    Calls Try.prog 14 #[.agg #[a, b, d], u] w fun e w' => e = .returned (.bool (quorumB c hv)) ∧ Below w.heap.size w w' := by
  obtain ⟨post, HP⟩ := hide (fun (e : Ending) (w' : World) => e = .returned (.bool (quorumB c hv)) ∧ Below w.heap.size w w')
  rw [HP.out]
  have hb1 : Below w.heap.size w (w.alloc (.cells #[a, b, d] 25)) := (Below.refl _ _).alloc (Nat.le_refl _) _
  obtain ⟨W, hW⟩ := hide (w.alloc (.cells #[a, b, d] 25))
  have hc1 : Config3 W a b d c := by rw [← hW.out]; exact hc.mono ((Below.refl _ _).alloc (Nat.le_refl _) _)
  have hx : W.heap[w.heap.size]? = some (.cells #[a, b, d] 25 (0, 0)) := by rw [← hW.out]; exact hp_at _ _ rfl
  rw [hW.out] at hb1
  have hu1 : Ints W u hv := hu.mono hb1
  obtain ⟨B, hB⟩ := hide w.heap.size
  rw [hB.out] at hx
  have c0 : W.cell? ⟨B, 0, none⟩ = some a := cell_n hx 0 rfl
  have c1 : W.cell? ⟨B, 1, none⟩ = some b := cell_n hx 1 rfl
  have c2 : W.cell? ⟨B, 2, none⟩ = some d := cell_n hx 2 rfl
  have HM1 := Lib.hid (most_law a u c.v hv W hc1.v hu1 h1)
  have Hx : Hid (∀ w', Below W.heap.size W w' → w'.heap[B]? = some (.cells #[a, b, d] 25 (0, 0))) := fun w' h => (h.block _ (lt_of_block hx)).trans hx
  have HJ := Lib.hid (config_joint a b d c W hc1)
  have HM2 : Hid (∀ w', Below W.heap.size W w' → Calls Try.prog 64 #[b, u] w' fun e w'' => e = .returned (.bool (mostB c.n hv)) ∧ w' = w'') := fun w' h => most_law b u c.n hv w' (hc1.mono h).n (hu1.mono h) h2
  have Hdef := Lib.hid (show quorumB c hv = (mostB c.v hv && (decide (c.n.length = 0) || mostB c.n hv)) from rfl)
  have Hp : Hid (∀ z w', Below W.heap.size W w' → quorumB c hv = z → post (.returned (.bool z)) w') := by
    show ∀ z w', _ → _ → _
    intro z w' hw hz; rw [← HP.out, ← hz]; exact ⟨rfl, hb1.trans (hw.mono hb1.size)⟩
  have hj : decide (c.n.length = 0) = !(decide (0 < c.n.length)) := by rw [← decide_not]; exact decide_eq_decide.2 (by omega)
  rw [hj] at Hdef
  obtain ⟨m1, hm1⟩ := hide (mostB c.v hv)
  obtain ⟨m2, hm2⟩ := hide (mostB c.n hv)
  obtain ⟨j, hJ⟩ := hide (decide (0 < c.n.length))
  rw [hm1.out] at HM1 Hdef
  rw [hm2.out] at HM2 Hdef
  rw [hJ.out] at HJ Hdef
  clear hb1 hc hc1 hx hu1 hj
  go_enter Try.func14, Try.ntmps14
  go_upto_region 1 with fail
  rw [hW.out, hB.out]
  go_wp2_with fail
  refine HM1.out.mono ?_
  rintro e w' ⟨rfl, rfl⟩
  cases m1 with
  | false =>
    have Hq := Lib.hid (Hp.out false _ (Below.refl _ _) (by rw [Hdef.out]; rfl))
    go_wp2_with fail
    first | exact Hq.out | (go_ret; exact Hq.out)
  | true =>
  go_wp2_with fail
  refine HJ.out.mono ?_
  rintro e w1 ⟨rfl, hb1⟩
  have Hb1 := Lib.hid hb1
  have x0 := Hx.out _ hb1
  clear hb1 c0 c1 c2
  have c1 : w1.cell? ⟨B, 1, none⟩ = some b := cell_n x0 1 rfl
  clear x0
  cases j with
  | false =>
    have Hq := Lib.hid (Hp.out true _ Hb1.out (by rw [Hdef.out]; rfl))
    go_wp2_with fail
    first | exact Hq.out | (go_ret; exact Hq.out)
  | true =>
  have Hd2 := Lib.hid (show quorumB c hv = m2 by rw [Hdef.out]; rfl)
  go_wp2_with fail
  refine (HM2.out _ Hb1.out).mono ?_
  rintro e w' ⟨rfl, rfl⟩
  have Hq := Lib.hid (Hp.out m2 _ Hb1.out Hd2.out)
  go_wp2_with fail
  first | exact Hq.out | (go_ret; exact Hq.out)
end Go.Proofs.Ytgdmcbjlfnjhjaa
