/-
  The law's own helpers on packets: two rows that hold the same packets are the same.
-/
import Derived.Test.YtckclacdmpcpbaaYl
import Derived.Test.YtckclacdmpcpbaaYf
namespace Go.Proofs.Ytckclacdmpcpbaa
open Go.RowKit Wm Mm Rl
set_option linter.unusedVariables false
set_option linter.unusedSimpArgs false

theorem ownP_cells {w : World} {S g n cap : Nat} {l : List PktP} (h : w.ownsRow S 34 5 (.slice (some ⟨g, 0, none⟩) n cap) n (l.flatMap rowP)) {k : Nat} (hk : k < l.length) (y : PktP) (hy : l[k] = y) :
    w.cell? ⟨g, k * 5, none⟩ = some (.int .i64 y.frm) ∧ w.cell? ⟨g, k * 5 + 1, none⟩ = some (.int .i64 y.to) ∧ w.cell? ⟨g, k * 5 + 2, none⟩ = some (.int .i64 y.num) ∧ w.cell? ⟨g, k * 5 + 3, none⟩ = some (.bool y.ack) ∧ w.cell? ⟨g, k * 5 + 4, none⟩ = some (str y.body) := by
  subst hy
  exact ownP_five (own_base h (Nat.zero_le _)) hk
set_option maxHeartbeats 4000000 in
set_option maxRecDepth 100000 in
theorem samePackets_law (l : List PktP) (S1 S2 : Nat) (va vb : Value) (w : World) (ha : w.ownsRow S1 34 5 va l.length (l.flatMap rowP)) (hb : w.ownsRow S2 34 5 vb l.length (l.flatMap rowP)) (hl : l.length ≤ 1073741824) :
    Calls Try.prog 22 #[va, vb] w fun e w' => e = .returned (.bool true) ∧ ∃ m, w' = w.drewN m := by
  obtain ⟨a, c, rfl⟩ := owns_slice ha
  obtain ⟨b, d, rfl⟩ := owns_slice hb
  obtain ⟨n, hn⟩ := hide l.length
  rw [hn.out] at ha hb hl ⊢
  have Ha := Lib.hid ha
  have Hb := Lib.hid hb
  clear ha hb
  go_enter Try.func22, Try.ntmps22
  go_wp2_with fail
  go_loopw [5] (fun s wr => ∃ j : Nat, s = .int .i64 j ∧ j ≤ n ∧ Hid (∃ m, wr = w.drewN m)) (fun s _ => n - (intOf s).toNat)
  case atStart => exact ⟨0, rfl, Nat.zero_le _, ⟨0, rfl⟩⟩
  case round =>
    obtain ⟨j, rfl, hj, hm⟩ := hrel
    by_cases hlt : j < n
    · obtain ⟨g1, k1, e1⟩ := own_ptr Ha.out (by omega)
      injection e1 with e1 e1' e1''
      subst e1 e1''
      obtain ⟨g2, k2, e2⟩ := own_ptr Hb.out (by omega)
      injection e2 with e2 e2' e2''
      subst e2 e2''
      have hjl : j < l.length := by rw [hn.out]; exact hlt
      obtain ⟨y, hy⟩ := hide l[j]
      obtain ⟨m, hm'⟩ := hm.out
      obtain ⟨c0, c1, c2, c3, c4⟩ := ownP_cells (own_agree Ha.out (Agree.drewN (fun _ => True) w m) (fun _ _ => trivial)) hjl y hy.out
      obtain ⟨d0, d1, d2, d3, d4⟩ := ownP_cells (own_agree Hb.out (Agree.drewN (fun _ => True) w m) (fun _ _ => trivial)) hjl y hy.out
      rw [← hm'] at c0 c1 c2 c3 c4 d0 d1 d2 d3 d4
      have hji : (j : Int) < (n : Int) := by omega
      clear hm' hy hjl e1' e2'
      go_upto_region 6 with fail
      go_cut [25] (fun s wx => s = .bool false ∧ Hid (∃ m, wx = wr.drewN m))
      case first =>
        go_quiet (fail)
        go_wp2_with fail
        go_meet
        exact ⟨by simp, ⟨_, rfl⟩⟩
      case rest =>
        obtain ⟨U, hU⟩ : ∃ U, U = wc := ⟨_, rfl⟩
        subst hU
        obtain ⟨rfl, hm1⟩ := hcut
        go_wp2_with fail
        go_roundw
        case rel => exact ⟨j + 1, by go_num, by omega, by obtain ⟨m, hm⟩ := hm.out; obtain ⟨m', hm'⟩ := hm1.out; exact ⟨m + m', by rw [hm', hm, World.drewN_drewN]⟩⟩
        case measure => simp [intOf]; omega
    · obtain rfl : j = n := by omega
      go_wp2_with fail
      go_ret
      exact ⟨rfl, hm.out⟩
set_option maxHeartbeats 4000000 in
set_option maxRecDepth 100000 in
theorem overPackets_law (v : Value) (n S : Nat) (xs : List Value) (w : World) (h : w.ownsRow S 34 5 v n xs) (hn : n ≤ 1073741824) (hS : S ≤ w.heap.size) :
    Calls Try.prog 23 #[v] w fun e w' => e = .returned (.tuple #[]) ∧ w.grownBy w' v.ownBlock := by
  obtain ⟨post, HP⟩ := hide (fun (e : Ending) (w' : World) => e = .returned (.tuple #[]) ∧ w.grownBy w' v.ownBlock)
  rw [HP.out]
  obtain ⟨ao, cap, rfl⟩ := owns_slice h
  have Hn := Lib.hid hn
  have Hh := Lib.hid h
  have HS := Lib.hid hS
  have hm : n ≤ 9223372036854775807 := by omega
  clear hn h hS
  go_enter Try.func23, Try.ntmps23
  go_wp2_with fail
  go_loopw [2] (fun i wr => ∃ k : Nat, ∃ ys : List Value, i = .int .i64 k ∧ k ≤ n ∧ Hid (wr.ownsRow S 34 5 (.slice ao n cap) n ys) ∧ Hid (w.grownBy wr (Value.slice ao n cap).ownBlock)) (fun i _ => n - (intOf i).toNat)
  case atStart => exact ⟨0, xs, rfl, Nat.zero_le _, Hh, ⟨rfl, rfl, rfl, Nat.le_refl _, fun _ _ _ => rfl⟩⟩
  case round =>
    obtain ⟨k, ys, rfl, hk, ho, hg⟩ := hrel
    by_cases hlt : k < n
    · obtain ⟨g, hao⟩ : ∃ g, ao = some ⟨g, 0, none⟩ := by
        rcases ho.out.2 with ⟨hv, h0⟩ | ⟨g', cap', cur, hv, _⟩
        · omega
        · injection hv with e1; exact ⟨g', e1⟩
      subst hao
      have hl := ho.out.1
      have u0 := own_cell ho.out (i := k * 5) (List.getElem?_eq_getElem (by omega))
      have u1 := own_cell ho.out (i := k * 5 + 1) (List.getElem?_eq_getElem (by omega))
      have u2 := own_cell ho.out (i := k * 5 + 2) (List.getElem?_eq_getElem (by omega))
      have u3 := own_cell ho.out (i := k * 5 + 3) (List.getElem?_eq_getElem (by omega))
      have u4 := own_cell ho.out (i := k * 5 + 4) (List.getElem?_eq_getElem (by omega))
      have f0 := own_free ho.out (k * 5)
      have f1 := own_free ho.out (k * 5 + 1)
      have f2 := own_free ho.out (k * 5 + 2)
      have f3 := own_free ho.out (k * 5 + 3)
      have f4 := own_free ho.out (k * 5 + 4)
      obtain ⟨y0, hy0⟩ := hide (ys[k * 5]'(by omega))
      obtain ⟨y1, hy1⟩ := hide (ys[k * 5 + 1]'(by omega))
      obtain ⟨y2, hy2⟩ := hide (ys[k * 5 + 2]'(by omega))
      obtain ⟨y3, hy3⟩ := hide (ys[k * 5 + 3]'(by omega))
      obtain ⟨y4, hy4⟩ := hide (ys[k * 5 + 4]'(by omega))
      rw [hy0.out] at u0
      rw [hy1.out] at u1
      rw [hy2.out] at u2
      rw [hy3.out] at u3
      rw [hy4.out] at u4
      have Ho2 := Lib.hid (own_put (own_put (own_put (own_put (own_put ho.out (k * 5) (.int .i64 0)) (k * 5 + 1) (.int .i64 0)) (k * 5 + 2) (.int .i64 (-7))) (k * 5 + 3) (.bool false)) (k * 5 + 4) (str []))
      have Hg2 := Lib.hid (grown_trans (grown_trans (grown_trans (grown_trans (grown_trans hg.out (grown_setCell wr ⟨g, k * 5, none⟩ (.int .i64 0))) (grown_setCell _ ⟨g, k * 5 + 1, none⟩ (.int .i64 0))) (grown_setCell _ ⟨g, k * 5 + 2, none⟩ (.int .i64 (-7)))) (grown_setCell _ ⟨g, k * 5 + 3, none⟩ (.bool false))) (grown_setCell _ ⟨g, k * 5 + 4, none⟩ (str [])))
      go_wp2_with fail
      go_roundw
      case rel => exact ⟨k + 1, _, by go_num, hlt, Ho2, Hg2⟩
      case measure => simp [intOf]; omega
    · have hkn : k = n := by omega
      have Hkn := Lib.hid hkn
      have hBs : S ≤ wr.heap.size := Nat.le_trans HS.out hg.out.size
      have Hsrc := Lib.hid (src_new (P := Try.prog) (w := wr) (e := 34) (e' := 34) (tx := 28) (size := 5) (n := 1) Try.underlying28 #[.int .i64 0, .int .i64 0, .int .i64 (-7), .bool false, str []] 1 rfl (rowP_one ⟨0, 0, -7, false, []⟩))
      have Ho1 := Lib.hid (ho.out.alloc (.cells #[.int .i64 0, .int .i64 0, .int .i64 (-7), .bool false, str []] 34))
      clear hkn
      go_wp2_with (at_builtin; refine wpList_append_src rfl _ _ 28 28 rfl S 34 _ 5 48 Try.underlying28 info_pkt rfl _ _ _ rfl Ho1.out _ _ _ rfl Hsrc.out (by have := Hn.out; unfold maxLen; omega) (by have := Hn.out; omega) (by simp; omega) ?_)
      intro v' w2 _ hg2
      have Hg3 := Lib.hid (grown_trans hg.out (grown_trans (World.grownBy_alloc wr _ _) hg2))
      clear hg2
      go_wp2_with fail
      go_end0
      rw [← HP.out]
      exact ⟨rfl, Hg3.out⟩
end Go.Proofs.Ytckclacdmpcpbaa
