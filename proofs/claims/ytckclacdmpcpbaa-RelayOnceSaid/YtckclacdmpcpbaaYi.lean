/-
  Three hosts that talk: what holds at each turn, in plain lists; and the check of it.
-/
import Derived.Test.YtckclacdmpcpbaaYh
namespace Go.Proofs.Ytckclacdmpcpbaa
open Go.RowKit Wm Mm Rl
set_option linter.unusedVariables false
set_option linter.unusedSimpArgs false

structure Ok (n : Nat) (t : TalkP) : Prop where
  inv : Inv t
  hs : ∀ i k, i < 3 → k < 10 → (t.hosts i).sent k ≤ n ∧ (t.hosts i).came k ≤ n
  ls : ∀ k, k < 16 → (t.sent k).length ≤ n
  way : t.way.length ≤ n
theorem ok0 : Ok 0 talks0 := ⟨inv0, fun _ _ _ _ => ⟨Nat.le_refl _, Nat.le_refl _⟩, fun _ _ => Nat.le_refl _, Nat.le_refl _⟩
theorem Ok.mono {n m : Nat} {t : TalkP} (h : Ok n t) (hm : n ≤ m) : Ok m t := ⟨h.inv, fun i k hi hk => ⟨Nat.le_trans (h.hs i k hi hk).1 hm, Nat.le_trans (h.hs i k hi hk).2 hm⟩, fun k hk => Nat.le_trans (h.ls k hk) hm, Nat.le_trans h.way hm⟩
theorem wait_le {t : TalkP} (h : Inv t) {i k : Nat} (hi : i < 3) : ((t.hosts i).wait k).length ≤ 16 := by
  by_cases hn : 1 ≤ k ∧ k < 4 ∧ k ≠ i + 1
  · obtain ⟨a, L⟩ := h.lane i (k - 1) hi (by omega) (by omega)
    have e : k - 1 + 1 = k := by omega
    have hw := L.wait
    rw [e] at hw
    rw [hw, Wt_len]
    have := L.few
    omega
  · rw [h.none i k hi hn]; exact Nat.zero_le _
theorem Ok.small {n : Nat} {t : TalkP} (h : Ok n t) : Small n t := by
  have key : ∀ k, k < 16 → (0 ≤ t.known k ∧ t.known k ≤ ((t.came k).length : Int)) ∧ (t.came k).length ≤ (t.sent k).length := by
    intro k hk16
    cases hp : pairB k
    · obtain ⟨h1, h2, h3⟩ := h.inv.void k hk16 hp
      rw [h1, h2, h3]
      simp
    · unfold pairB at hp
      simp only [Bool.and_eq_true, decide_eq_true_eq, Bool.not_eq_true', beq_eq_false_iff_ne] at hp
      obtain ⟨a, L⟩ := h.inv.lane (k / 4) (k % 4) hp.1.1 hp.1.2 hp.2
      have e : 4 * (k / 4) + k % 4 = k := by omega
      have h1 := L.le1; have h2 := L.le2; have h4 := L.known
      rw [e] at h1 h2 h4
      exact ⟨⟨by omega, by omega⟩, h2⟩
  refine ⟨fun i k hi hk => wait_le h.inv hi, fun i k hi hk => (h.hs i k hi hk).1, fun i k hi hk => (h.hs i k hi hk).2, fun k hk => ⟨(key k hk).1.1, ?_⟩, h.ls, fun k hk => ?_, h.way⟩
  · have h1 := key k hk
    have h2 := h.ls k hk
    omega
  · have h1 := key k hk
    have h2 := h.ls k hk
    omega
theorem packets_len {t : TalkP} (h : Inv t) {i : Nat} (hi : i < 3) : (packetsP (t.hosts i)).length ≤ 160 := by
  have e10 : List.range 10 = [0, 1, 2, 3, 4, 5, 6, 7, 8, 9] := rfl
  have h0 := wait_le h (k := 0) hi
  have h1 := wait_le h (k := 1) hi
  have h2 := wait_le h (k := 2) hi
  have h3 := wait_le h (k := 3) hi
  have h4 := wait_le h (k := 4) hi
  have h5 := wait_le h (k := 5) hi
  have h6 := wait_le h (k := 6) hi
  have h7 := wait_le h (k := 7) hi
  have h8 := wait_le h (k := 8) hi
  have h9 := wait_le h (k := 9) hi
  unfold packetsP
  rw [e10]
  simp only [List.flatMap_cons, List.flatMap_nil, List.length_append, List.length_nil]
  omega
theorem ok_way {n m : Nat} {t : TalkP} (h : Ok n t) {l : List PktP} (hl : ∀ p ∈ l, Fine t p) (hm : l.length ≤ m) (hnm : n ≤ m) : Ok m { t with way := l } :=
  ⟨inv_way h.inv hl, (h.mono hnm).hs, (h.mono hnm).ls, hm⟩
theorem ok_send {n : Nat} {t : TalkP} (h : Ok n t) {i j : Nat} (hi : i < 3) (hj : j < 3) (hij : i ≠ j) (body : List UInt8) : (sendT t i j body).2 = true ∧ Ok (n + 1) (sendT t i j body).1 := by
  obtain ⟨h1, h2⟩ := inv_send h.inv hi hj hij body
  have hse : ∀ k, k < 10 → (sendP (t.hosts i) ((j : Int) + 1) body).1.sent k ≤ n + 1 ∧ (sendP (t.hosts i) ((j : Int) + 1) body).1.came k ≤ n + 1 := by
    intro k hk
    have h0 := h.hs i k hi hk
    unfold sendP
    split
    · split
      · exact ⟨by simp; omega, by simp; omega⟩
      · refine ⟨?_, by show (t.hosts i).came k ≤ _; omega⟩
        show upd (t.hosts i).sent _ _ k ≤ _
        by_cases hkj : k = ((j : Int) + 1).toNat
        · subst hkj; rw [upd_same]; omega
        · rw [upd_ne _ _ hkj]; omega
    · exact ⟨by simp; omega, by simp; omega⟩
  have hho : ∀ a k, a < 3 → k < 10 → (upd t.hosts i (sendP (t.hosts i) ((j : Int) + 1) body).1 a).sent k ≤ n + 1 ∧ (upd t.hosts i (sendP (t.hosts i) ((j : Int) + 1) body).1 a).came k ≤ n + 1 := by
    intro a k ha hk
    by_cases hai : a = i
    · subst hai; rw [upd_same]; exact hse k hk
    · rw [upd_ne _ _ hai]; have := h.hs a k ha hk; omega
  refine ⟨h1, h2, ?_, ?_, ?_⟩
  · unfold sendT
    simp only []
    split <;> exact hho
  · intro k hk
    have h3 := h.ls k hk
    unfold sendT
    simp only []
    split
    · show (t.sent k).length ≤ _; omega
    · show (upd t.sent (4 * i + j) _ k).length ≤ _
      by_cases hk2 : k = 4 * i + j
      · subst hk2; rw [upd_same, List.length_append]; simp; omega
      · rw [upd_ne _ _ hk2]; omega
  · have h3 := h.way
    unfold sendT
    simp only []
    split <;> (show t.way.length ≤ _; omega)
theorem recv_keeps (r : RelP) (x : PktP) : (recvP r x).1.sent = r.sent ∧ ∀ k, k ≠ x.frm.toNat → (recvP r x).1.came k = r.came k := by
  unfold recvP
  split
  · simp only []
    split
    · exact ⟨rfl, fun k hk => rfl⟩
    · split
      · exact ⟨rfl, fun k hk => by show upd r.came _ _ k = _; rw [upd_ne _ _ hk]⟩
      · split
        · exact ⟨rfl, fun k hk => rfl⟩
        · exact ⟨rfl, fun k hk => rfl⟩
  · exact ⟨rfl, fun k hk => rfl⟩
theorem ok_comes {n : Nat} {t : TalkP} (h : Ok n t) {p : PktP} (hp : Fine t p) (hw : t.way.length + 1 ≤ n) : (comesT t p).2 = true ∧ Ok n (comesT t p).1 := by
  obtain ⟨h1, i, j, hi, hj, hij, e1, e2, S⟩ := comes_fine h.inv hp
  obtain ⟨f1, f2⟩ := fine_host hp
  have hhosts : (comesT t p).1.hosts = upd t.hosts j (recvP (t.hosts j) p).1 := by
    unfold comesT
    rw [if_pos (by rw [f1, f2]; rfl)]
    have : (p.to - 1).toNat = j := by omega
    simp only [this]
  obtain ⟨k1, k2⟩ := recv_keeps (t.hosts j) p
  have hfn : p.frm.toNat = i + 1 := by omega
  refine ⟨h1, S.inv, fun a k ha hk => ?_, fun k hk => by rw [S.sent]; exact h.ls k hk, ?_⟩
  · have h0 := h.hs a k ha hk
    rw [hhosts]
    by_cases haj : a = j
    · subst haj
      rw [upd_same, k1]
      refine ⟨h0.1, ?_⟩
      by_cases hki : k = i + 1
      · subst hki
        obtain ⟨b, L⟩ := S.inv.lane i a hi hj hij
        have l1 := L.ncame
        have l2 := L.le2
        rw [S.sent] at l2
        rw [hhosts, upd_same] at l1
        rw [l1]
        exact Nat.le_trans l2 (h.ls _ (by omega))
      · rw [k2 k (by omega)]; exact h0.2
    · rw [upd_ne _ _ haj]; exact h0
  · obtain ⟨l, hl1, _, hl3⟩ := S.acks
    rw [hl1, List.length_append]
    have : l.length ≤ 1 := by split at hl3 <;> omega
    omega

theorem rowS_get : ∀ (l : List (List UInt8)) (j : Nat) (hj : j < l.length), (l.flatMap rowS)[j]? = some (str l[j]) := by
  intro l
  induction l with
  | nil => intro j hj; simp at hj
  | cons a r ih =>
    intro j hj
    cases j with
    | zero => rfl
    | succ j => exact ih j (by simpa using hj)
set_option maxHeartbeats 8000000 in
set_option maxRecDepth 100000 in
theorem right_law (t : TalkP) (n : Nat) (z : Nat → Nat) (w : World) (T : Nat) (h : TalkX 3 z w T t) (ho : Ok n t) (hn : n ≤ 1073741824) :
    Calls Try.prog 28 #[.pointer (some ⟨T, 0, none⟩)] w fun e w' => e = .returned (.bool true) ∧ ∃ m, w' = w.drewN m := by
  have hr := right_of ho.inv
  have hs := ho.small
  have key : ∀ k, k < 16 → ((t.came k).length ≤ (t.sent k).length ∧ t.known k ≤ ((t.came k).length : Int)) ∧ t.came k = (t.sent k).take (t.came k).length := by
    intro k hk
    unfold rightT at hr
    have h1 := List.all_eq_true.1 hr k (by simpa using hk)
    rw [Bool.and_eq_true, Bool.and_eq_true, decide_eq_true_eq, decide_eq_true_eq, beq_iff_eq] at h1
    exact h1
  obtain ⟨⟨hv, wv, sv, cv, Bs, hblk, hp⟩, hz⟩ := h
  have Hkey := Lib.hid key
  have Hblk := Lib.hid hblk
  have Hp := Lib.hid hp
  have Hs := Lib.hid hs
  clear key hblk hp hs hr
  go_enter Try.func28, Try.ntmps28
  go_wp2_with fail
  go_loopw [3] (fun s wr => ∃ k : Nat, s = .int .i64 k ∧ k ≤ 16 ∧ Hid (∃ m, wr = w.drewN m)) (fun s _ => 16 - (intOf s).toNat)
  case atStart => exact ⟨0, rfl, Nat.zero_le _, ⟨0, rfl⟩⟩
  case round =>
    obtain ⟨Wr, hWr⟩ : ∃ V, V = wr := ⟨_, rfl⟩
    subst hWr
    obtain ⟨k, rfl, hk, hm⟩ := hrel
    by_cases hlt : k < 16
    · obtain ⟨⟨k1, k2⟩, k3⟩ := Hkey.out k hlt
      have hb : Hid (Wr.heap[T]? = some (blkT hv wv sv cv t.known)) := by obtain ⟨m, hm⟩ := hm.out; show _ = _; rw [hm]; exact Hblk.out
      have hpr : Hid (Parts 3 z Wr hv wv sv cv Bs t) := by obtain ⟨m, hm⟩ := hm.out; show Parts _ _ _ _ _ _ _ _ _; rw [hm]; exact Hp.out.agree (Agree.drewN _ w m)
      obtain ⟨a, c, hcv⟩ := owns_slice (hpr.out.came.own k hlt)
      obtain ⟨b, d, hsv⟩ := owns_slice (hpr.out.sent.own k hlt)
      have c1 := cell_n hb.out (18 + k) (cellsT_came _ _ _ _ _ hlt)
      have c2 := cell_n hb.out (2 + k) (cellsT_sent _ _ _ _ _ hlt)
      have c3 := cell_n hb.out (34 + k) (cellsT_known _ _ _ _ _ hlt)
      rw [hcv] at c1
      rw [hsv] at c2
      have oc : Hid (Wr.ownsRow 0 9 1 (.slice a (t.came k).length c) (t.came k).length ((t.came k).flatMap rowS)) := by have h := hpr.out.came.own k hlt; rw [hcv] at h; exact h
      have os : Hid (Wr.ownsRow 0 9 1 (.slice b (t.sent k).length d) (t.sent k).length ((t.sent k).flatMap rowS)) := by have h := hpr.out.sent.own k hlt; rw [hsv] at h; exact h
      obtain ⟨lc, hlc⟩ := hide (t.came k).length
      obtain ⟨ls, hls⟩ := hide (t.sent k).length
      obtain ⟨kk, hkk⟩ := hide (t.known k)
      rw [hlc.out] at c1 k1 k2 oc
      rw [hls.out] at c2 k1 os
      rw [hkk.out] at c3 k2
      have hlcb : lc ≤ 1073741824 := by rw [← hlc.out]; exact Nat.le_trans (Hs.out.lcame k hlt) hn
      have hlsb : ls ≤ 1073741824 := by rw [← hls.out]; exact Nat.le_trans (Hs.out.lsent k hlt) hn
      have K3 := Lib.hid k3
      clear k3 hcv hsv hpr
      have hki : (k : Int) < 16 := by omega
      go_upto_region 4 with fail
      go_cut [39] (fun s wx => s = .bool false ∧ Hid (∃ m, wx = Wr.drewN m))
      case first =>
        go_quiet (fail)
        go_wp2_with fail
        go_meet
        exact ⟨by rw [decide_eq_false (show ¬ ls < lc from by omega), decide_eq_false (show ¬ (lc : Int) < kk from by omega)]; rfl, ⟨_, rfl⟩⟩
      case rest =>
        obtain ⟨U, hU⟩ : ∃ U, U = wc := ⟨_, rfl⟩
        subst hU
        obtain ⟨rfl, hm1⟩ := hcut
        go_wp2_with fail
        go_loopw [4] (fun s wq => ∃ j : Nat, s = .int .i64 j ∧ j ≤ lc ∧ Hid (∃ m, wq = Wr.drewN m)) (fun s _ => lc - (intOf s).toNat)
        case atStart => exact ⟨0, rfl, Nat.zero_le _, hm1⟩
        case round =>
          obtain ⟨j, rfl, hj, hm2⟩ := hrel
          have c1 : wr.cell? ⟨T, 18 + k, none⟩ = some (.slice a lc c) := by obtain ⟨m, hm⟩ := hm2.out; rw [hm]; exact c1
          have c2 : wr.cell? ⟨T, 2 + k, none⟩ = some (.slice b ls d) := by obtain ⟨m, hm⟩ := hm2.out; rw [hm]; exact c2
          by_cases hjl : j < lc
          · obtain ⟨g1, q1, e1⟩ := own_ptr oc.out (by omega)
            injection e1 with e1 e1' e1''
            subst e1 e1''
            obtain ⟨g2, q2, e2⟩ := own_ptr os.out (by omega)
            injection e2 with e2 e2' e2''
            subst e2 e2''
            have hjc : j < (t.came k).length := by rw [hlc.out]; exact hjl
            have hjs : j < (t.sent k).length := by rw [hls.out]; omega
            obtain ⟨s, hs⟩ := hide (t.sent k)[j]
            have hcs : (t.came k)[j] = s := by
              rw [← hs.out]
              have h1 : (t.came k)[j]? = ((t.sent k).take (t.came k).length)[j]? := congrArg (·[j]?) K3.out
              rw [List.getElem?_take_of_lt hjc, List.getElem?_eq_getElem hjc, List.getElem?_eq_getElem hjs] at h1
              injection h1
            have d1 : wr.cell? ⟨g1, j, none⟩ = some (str s) := by
              obtain ⟨m, hm⟩ := hm2.out
              rw [hm]
              exact own_cell (own_agree oc.out (Agree.drewN (fun _ => True) Wr m) (fun _ _ => trivial)) (by rw [rowS_get _ _ hjc, hcs])
            have d2 : wr.cell? ⟨g2, j, none⟩ = some (str s) := by
              obtain ⟨m, hm⟩ := hm2.out
              rw [hm]
              exact own_cell (own_agree os.out (Agree.drewN (fun _ => True) Wr m) (fun _ _ => trivial)) (by rw [rowS_get _ _ hjs, hs.out])
            have hji : (j : Int) < (lc : Int) := by omega
            have hji2 : (j : Int) < (ls : Int) := by omega
            clear hcs hs hjc hjs e1' e2'
            go_wp2_with fail
            go_upto_region 9 with fail
            go_cut [69] (fun s wx => s = .bool false ∧ Hid (∃ m, wx = wr.drewN m))
            case first =>
              go_quiet (fail)
              go_wp2_with fail
              go_meet
              exact ⟨by simp, ⟨_, rfl⟩⟩
            case rest =>
              obtain ⟨Y, hY⟩ : ∃ Y, Y = wc := ⟨_, rfl⟩
              subst hY
              obtain ⟨rfl, hm3⟩ := hcut
              go_wp2_with fail
              go_roundw
              case rel => exact ⟨j + 1, by go_num, by omega, by obtain ⟨m, hm⟩ := hm2.out; obtain ⟨m', hm'⟩ := hm3.out; exact ⟨m + m', by rw [hm', hm, World.drewN_drewN]⟩⟩
              case measure => simp [intOf]; omega
          · obtain rfl : j = lc := by omega
            go_wp2_with fail
            go_roundw
            case rel => exact ⟨k + 1, by go_num, by omega, by obtain ⟨m, hm⟩ := hm.out; obtain ⟨m', hm'⟩ := hm2.out; exact ⟨m + m', by rw [hm', hm, World.drewN_drewN]⟩⟩
            case measure => simp [intOf]; omega
    · obtain rfl : k = 16 := by omega
      go_wp2_with fail
      go_ret
      exact ⟨rfl, hm.out⟩
end Go.Proofs.Ytckclacdmpcpbaa
