/-
  The hints of a log lead back: the walk.
-/
import Derived.Test.YtlknkhmhdmpdkaaLe
import Derived.Test.YtlknkhmhdmpdkaaQc
namespace Go.Proofs.Ytlknkhmhdmpdkaa
open Go.RowKit Wm Mm Lg
set_option linter.unusedVariables false
set_option linter.unusedSimpArgs false

theorem termIn_at {l : List EntP} {j : Nat} (h : j < l.length) : termIn l (j + 1) = l[j].trm := by
  unfold termIn
  rw [if_neg (by omega), show j + 1 - 1 = j from by omega, List.getElem?_eq_getElem h]
  rfl

set_option maxHeartbeats 2000000 in
theorem law_returns (ev ev2 : Value) (l L : List EntP) (p : Nat) (F G : Nat → Prop) (w : World) (h : Ents F w ev l) (hk : Ok 0 l) (h2 : Ents G w ev2 L) (hp : p ≤ L.length) (hl : l.length ≤ 1000000) (hL : L.length ≤ 1000000) :
    Calls Try.prog 34 #[vLog 0 0 ev, ev2, .int .i64 p] w fun e w' => e = .returned (.bool true) ∧ Below w.heap.size w w' := by
  obtain ⟨ao, cap, rfl, hcap, hmax⟩ := h.slice
  obtain ⟨ao2, cap2, rfl, _, _⟩ := h2.slice
  obtain ⟨W, hW⟩ := hide (w.alloc (.cells (oLog 0 0 (.slice ao l.length cap)) 52))
  have hc : W.heap[w.heap.size]? = some (.cells (oLog 0 0 (.slice ao l.length cap)) 52 (0, 0)) := by rw [← hW.out]; exact hp_at _ _ rfl
  have hb0 : Below w.heap.size w W := by rw [← hW.out]; exact (Below.refl _ _).alloc (Nat.le_refl _) _
  have H1 := Lib.hid (h.frame (Plain.good _) (Agree.below hb0))
  have H2 := Lib.hid (h2.frame (Plain.good _) (Agree.below hb0))
  have KE : Hid (∀ (w' : World) (q : Nat), Below W.heap.size W w' → q ≤ L.length → Calls Try.prog 31 #[vLog 0 0 (.slice ao l.length cap), .int .i64 q, .int .i64 (termIn L q), .slice none 0 0] w' fun e w'' => ∃ v', e = .returned (.tuple #[vLog 0 0 v', .int .i64 (ext 0 0 l q (termIn L q) []).mat, .int .i64 (ext 0 0 l q (termIn L q) []).first, .int .i64 (ext 0 0 l q (termIn L q) []).look]) ∧ OwnE w'.heap.size w'' v' (ext 0 0 l q (termIn L q) []).es ∧ Below w'.heap.size w' w'') :=
    fun w' q hb hq => wire_extend 0 0 q (termIn L q) _ _ l [] F (fun _ => True) w' (H1.out.frame (Plain.good _) (Agree.below hb)) hk (Sl.nil _ _ _ _) (fun k hk => by simp at hk) (by omega) (by omega) (by simp; omega)
  have KT : Hid (∀ (w' : World) (q : Nat), Below W.heap.size W w' → q ≤ L.length → Calls Try.prog 33 #[.slice ao2 L.length cap2, .int .i64 q] w' fun e w'' => e = .returned (.int .i64 (termIn L q)) ∧ w' = w'') :=
    fun w' q hb hq => law_termOf _ L q G w' (H2.out.frame (Plain.good _) (Agree.below hb)) hq
  have Hb00 := Lib.hid hb0
  obtain ⟨B, hB⟩ := hide w.heap.size
  rw [hB.out] at hc hb0
  have Hx := Lib.hid (logKept (w := w) hc)
  have c2 := cell_n hc 2 (v := .slice ao l.length cap) rfl
  have Hb0 := Lib.hid hb0
  clear hc h h2 hb0 hk
  go_enter Try.func34, Try.ntmps34
  go_upto_region 1 with fail
  rw [hW.out, hB.out]
  clear c2
  go_wp2_with fail
  go_loopw [7, 8] (fun t i wr => ∃ k : Nat, i = .int .i64 k ∧ t = .int .i64 (runs l k) ∧ k ≤ l.length ∧ Hid (Below W.heap.size W wr)) (fun _ i _ => l.length - (intOf i).toNat)
  case atStart => exact ⟨0, rfl, rfl, Nat.zero_le _, Below.refl _ _⟩
  case round =>
    obtain ⟨k, rfl, rfl, hkl, hb⟩ := hrel
    have x0 := Hx.out _ hb.out
    have c2 := cell_n x0 2 (v := .slice ao l.length cap) rfl
    clear x0
    have hrk := runs_le l k
    by_cases hlt : k < l.length
    · have er : runs l (k + 1) = runs l k + if k = 0 ∨ termIn l (k + 1) ≠ termIn l k then 1 else 0 := rfl
      obtain ⟨r, hr⟩ := hide (runs l k)
      rw [hr.out] at er hrk ⊢
      by_cases hk0 : k = 0
      · rw [if_pos (Or.inl hk0)] at er
        subst hk0
        go_wp2_with (go_quiet (fail))
        go_roundw
        case rel => exact ⟨1, rfl, by rw [er]; go_num, by omega, below_drew' hb.out _⟩
        case measure => simp [intOf]; omega
      · obtain ⟨b, off, us, rfl, _, _, hus, hcs⟩ := (H1.out.frame (Plain.good _) (Agree.below hb.out)).at hlt
        have hus' : us = rowE l[k] := hus
        subst hus'
        have d1 := hcs 1 _ rfl
        have hjl : k - 1 < l.length := by omega
        obtain ⟨b', off', us', ee, _, _, hus2, hcs2⟩ := (H1.out.frame (Plain.good _) (Agree.below hb.out)).at hjl
        have hus2' : us' = rowE l[k - 1] := hus2
        subst hus2'
        injection ee with ee
        injection ee with e1 e2 e3
        subst e1 e2
        have d2 := hcs2 1 _ rfl
        have t1 := termIn_at hlt
        have t2 := termIn_at hjl
        rw [show k - 1 + 1 = k from by omega] at t2
        obtain ⟨x, hx⟩ := hide l[k].trm
        obtain ⟨y, hy⟩ := hide l[k - 1].trm
        rw [hx.out] at d1 t1
        rw [hy.out] at d2 t2
        rw [t1, t2] at er
        have t0 : ((k : Int) == 0) = false := beq_eq_false_iff_ne.2 (by omega)
        have hw : IntKind.i64.wrap ((k : Int) - 1) = ((k - 1 : Nat) : Int) := by rw [IntWalk.i64_in _ (by omega)]; omega
        clear hcs hcs2 hus hus2 t1 t2
        by_cases hxy : x = y
        · rw [if_neg (by intro h; rcases h with h | h; exact hk0 h; exact h hxy)] at er
          have t3 : (x != y) = false := by simp [hxy]
          have t4 : (x == y) = true := by simp [hxy]
          have Hk0 := Lib.hid hk0
          clear hxy hk0
          go_wp2_with (go_quiet (fail))
          go_roundw
          case rel => exact ⟨k + 1, by go_num, by rw [er]; go_num, by omega, below_drew' hb.out _⟩
          case measure => simp [intOf]; omega
        · rw [if_pos (Or.inr hxy)] at er
          have t3 : (x != y) = true := by simp [hxy]
          have t4 : (x == y) = false := by simp [hxy]
          have Hk0 := Lib.hid hk0
          clear hxy hk0
          go_wp2_with (go_quiet (fail))
          go_roundw
          case rel => exact ⟨k + 1, by go_num, by rw [er]; go_num, by omega, below_drew' hb.out _⟩
          case measure => simp [intOf]; omega
    · obtain rfl : k = l.length := by omega
      obtain ⟨T, hT⟩ := hide (runs l l.length)
      rw [hT.out] at hrk ⊢
      go_wp2_with fail
      clear c2
      go_loopw [2, 9] (fun q i wr => ∃ (n m : Nat), q = .int .i64 n ∧ i = .int .i64 m ∧ n ≤ L.length ∧ m ≤ T + 1 ∧ Hid (Back l m n) ∧ Hid (Below W.heap.size W wr)) (fun _ i _ => T + 2 - (intOf i).toNat)
      case atStart => exact ⟨p, 0, rfl, rfl, hp, by omega, Back.start l p, hb⟩
      case round =>
        rename_i wz
        obtain ⟨n, m, rfl, rfl, hn, hm, hbk, hb2⟩ := hrel
        have t1 : decide ((m : Int) ≤ (T : Int) + 1) = true := decide_eq_true (by omega)
        obtain ⟨X, hX⟩ := hide (ext 0 0 l n (termIn L n) [])
        have KX := Lib.hid (fun w' hb => KE.out w' n hb hn)
        rw [hX.out] at KX
        have KU := Lib.hid (fun w' hb => KT.out w' n hb hn)
        go_upto_region 10 with fail
        go_cut [13] (fun lk wx => lk = .int .i64 X.look ∧ Hid (Below W.heap.size W wx))
        case first =>
          have Hd := Lib.hid (hb2.out.drew)
          have x0 := Hx.out _ Hd.out
          have c0 := cell_n x0 0 (v := .int .i64 0) rfl
          have c1 := cell_n x0 1 (v := .int .i64 0) rfl
          have c2 := cell_n x0 2 (v := .slice ao l.length cap) rfl
          clear x0
          have Ha : Hid (∀ o, Below W.heap.size W (wr.alloc o).drew) := fun o => (hb2.out.alloc hb2.out.size o).drew
          have x5 := Hx.out _ (Ha.out (.cells #[.int .i64 0, .int .i64 0, .slice none 0 0] 52))
          have f0 := cell_n x5 0 (v := .int .i64 0) rfl
          have f1 := cell_n x5 1 (v := .int .i64 0) rfl
          have f2 := cell_n x5 2 (v := .slice ao l.length cap) rfl
          clear x5
          have HY : Hid (∀ V3, Below (wr.alloc (.cells #[.int .i64 0, .int .i64 0, .slice none 0 0] 52)).drew.heap.size (wr.alloc (.cells #[.int .i64 0, .int .i64 0, .slice none 0 0] 52)).drew V3 → V3.heap[wr.heap.size]? = some (.cells #[.int .i64 0, .int .i64 0, .slice none 0 0] 52 (0, 0))) := fun V3 hb => (hb.block _ (by show _ < (wr.alloc _).heap.size; simp)).trans (hp_at _ _ rfl)
          have Hz1 : Hid (∀ V3, Below W.heap.size W V3 → ∀ v0 v1 v2, Hid (Below W.heap.size W (((V3.setCell ⟨wr.heap.size, 0, none⟩ v0).setCell ⟨wr.heap.size, 1, none⟩ v1).setCell ⟨wr.heap.size, 2, none⟩ v2))) := fun V3 h v0 v1 v2 => setAll_below h hb2.out.size [v0, v1, v2]
          have Hz2 : Hid (∀ V3, Below W.heap.size W V3 → ∀ o, Hid (Below W.heap.size W (V3.alloc o))) := fun V3 h o => h.alloc h.size o
          have Hj : Hid (∀ V V', Below W.heap.size W V → Below V.heap.size V V' → Below W.heap.size W V') := fun _ _ h h' => h.trans (h'.mono h.size)
          go_region_with (first
            | (go_at_call 33; (with_reducible refine (KU.out _ (by first | with_reducible exact Hd.out | with_reducible exact Ha.out _ | with_reducible exact H3.out)).mono ?_); rintro e V ⟨rfl, rfl⟩)
            | (go_at_call 31; go_loud ((with_reducible refine (KX.out _ (by first | with_reducible exact Hd.out | with_reducible exact Ha.out _)).mono ?_); rintro e V3 ⟨v3, rfl, ho3, hb3⟩; have H3 : Hid (Below W.heap.size W V3) := Hj.out _ _ (by first | with_reducible exact Hd.out | with_reducible exact Ha.out _) hb3; obtain ⟨a3, k3, rfl⟩ := owns_slice ho3; have x3 := Hx.out _ H3.out; have d0 := cell_n x3 0 (v := .int .i64 0) rfl; have d1 := cell_n x3 1 (v := .int .i64 0) rfl; have d2 := cell_n x3 2 (v := .slice ao l.length cap) rfl; clear x3; (first | have y3 := HY.out V3 (by with_reducible exact hb3) | skip); (first | (have g0 := free_n y3 0; have g1 := free_n y3 1; have g2 := free_n y3 2; have q0 := cell_n y3 0 (v := .int .i64 0) rfl; have q1 := cell_n y3 1 (v := .int .i64 0) rfl; have q2 := cell_n y3 2 (v := .slice none 0 0) rfl; clear y3) | skip); clear ho3 hb3)))
          all_goals
            go_wp2_with fail
            go_meet
            refine ⟨rfl, ?_⟩
            first
            | with_reducible exact Hz1.out _ H3.out _ _ _
            | with_reducible exact Hz2.out _ H3.out _
        case rest =>
          obtain ⟨rfl, hb3⟩ := hcut
          have Hbb := Lib.hid (Hb00.out.trans (hb3.out.mono Hb00.out.size))
          by_cases hf : termAt 0 0 l n = (termIn L n, 0)
          · have e1 : X.look = 0 := by rw [← hX.out, ext0, if_pos hf]
            rw [e1]
            clear hf
            go_wp2_with fail
            go_ret
            exact ⟨rfl, Hbb.out⟩
          · have hn1 : 1 ≤ n := by
              rcases Nat.eq_zero_or_pos n with h0 | h0
              · subst h0
                exact absurd (termAt0 (Nat.zero_le _)) hf
              · exact h0
            have e1 : X.look = hintOf 0 0 l n := by rw [← hX.out, ext0, if_neg hf]
            obtain ⟨q, hq1, hq2, hq3⟩ := hbk.out.step hn1
            have hq4 := hq3.more
            rw [hT.out] at hq4
            rw [e1, hq1]
            have Hq3 := Lib.hid hq3
            have t2 : ((q : Int) + 1 == 0) = false := beq_eq_false_iff_ne.2 (by omega)
            have t3 : decide ((n : Int) < (q : Int) + 1) = false := decide_eq_false (by omega)
            have t4 : decide ((q : Int) + 1 < 1) = false := decide_eq_false (by omega)
            clear hf hq1 hq3 e1
            go_wp2_with fail
            go_roundw
            case rel => exact ⟨q, m + 1, by go_num, by go_num, by omega, hq4, Hq3, hb3⟩
            case measure => simp [intOf]; omega
end Go.Proofs.Ytlknkhmhdmpdkaa
