/-
  Bounds of keys: ranges, copies, comparing, who has all keys of a range.
-/
import Derived.Test.YtlknkhmhdmpdkaaDd
import Derived.Deep.AppendSrc
namespace Go.Proofs.Ytlknkhmhdmpdkaa
open Go.RowKit Wm Mm Dg
set_option linter.unusedVariables false
set_option linter.unusedSimpArgs false

set_option maxHeartbeats 1000000 in
theorem within_law (x fr up : List UInt8) (w : World) : Calls Try.prog 109 #[str x, str fr, str up] w fun e w' => e = .returned (.bool (within x fr up)) ∧ w = w' := by
  obtain ⟨r, hr⟩ := hide (within x fr up)
  rw [hr.out]
  have hr2 : (!(lt x fr) && (up == [] || lt x up)) = r := hr.out
  go_enter Try.func109, Try.ntmps109
  cases h1 : lt x fr <;> cases h2 : (up == []) <;> cases h3 : lt x up
  all_goals
    rw [h1, h2, h3] at hr2
    have h1' := (show Op.bytesLess x fr = _ from h1)
    have h3' := (show Op.bytesLess x up = _ from h3)
    clear h1 h3
    simp only [Bool.not_false, Bool.not_true, Bool.true_and, Bool.false_and, Bool.or_false, Bool.or_true, Bool.true_or, Bool.false_or] at hr2
    subst hr2
    go_wp2_with fail
    go_ret
    exact ⟨rfl, rfl⟩
set_option maxHeartbeats 1000000 in
theorem in_law (x fr up : List UInt8) (w : World) : Calls Try.prog 111 #[str x, str fr, str up] w fun e w' => e = .returned (.bool (within x fr up)) ∧ w = w' := by
  obtain ⟨r, hr⟩ := hide (within x fr up)
  rw [hr.out]
  have hr2 : (!(lt x fr) && (up == [] || lt x up)) = r := hr.out
  go_enter Try.func111, Try.ntmps111
  cases h1 : lt x fr <;> cases h2 : (up == []) <;> cases h3 : lt x up
  all_goals
    rw [h1, h2, h3] at hr2
    have h1' := (show Op.bytesLess x fr = _ from h1)
    have h3' := (show Op.bytesLess x up = _ from h3)
    clear h1 h3
    simp only [Bool.not_false, Bool.not_true, Bool.true_and, Bool.false_and, Bool.or_false, Bool.or_true, Bool.true_or, Bool.false_or] at hr2
    subst hr2
    go_wp2_with fail
    go_ret
    exact ⟨rfl, rfl⟩

set_option maxHeartbeats 1000000 in
theorem new_law (h : Int) (w : World) : Calls Try.prog 20 #[.int .i64 h] w fun e w' => ∃ v', e = .returned v' ∧ Bnds (fun _ => True) w' v' [⟨[], h⟩] ∧ Below w.heap.size w w' := by
  go_enter Try.func20, Try.ntmps20
  go_wp2_with fail
  go_ret
  refine ⟨_, rfl, ?_, (Below.refl _ _).alloc (Nat.le_refl _) _⟩
  have hq : (w.alloc (.cells #[str [], .int .i64 h] 36)).heap[w.heap.size]? = some (.cells #[str [], .int .i64 h] 36 (0, 0)) := hp_at _ _ rfl
  refine ⟨some ⟨w.heap.size, 0, none⟩, 1, rfl, ⟨Nat.le_refl _, fun h => by cases h⟩, by simp, fun _ => ⟨w.heap.size, 0, rfl, trivial, lt_of_block hq, fun j y hj => ?_⟩⟩
  have hj0 : j = 0 := by
    rcases Nat.eq_zero_or_pos j with h | h
    · exact h
    · rw [List.getElem?_eq_none (by simp; omega)] at hj; cases hj
  subst hj0
  simp at hj
  subst hj
  refine ⟨rowB ⟨[], h⟩, rfl, rfl, fun i u hu => ?_⟩
  rw [show 0 + 0 * 2 + i = i from by omega]
  exact cell_n hq i (by simpa using hu)

set_option maxHeartbeats 1000000 in
theorem clone_bnds (ev : Value) (es : List BoundP) (F : Nat → Prop) (w : World) (h : Bnds F w ev es) (hn : es.length ≤ 5864062014700) :
    Calls Try.prog 105 #[ev] w fun e w' => ∃ v', e = .returned v' ∧ OwnB w.heap.size w' v' es ∧ Below w.heap.size w w' := by
  obtain ⟨post, HP⟩ := hide (fun (e : Ending) (w' : World) => ∃ v', e = .returned v' ∧ OwnB w.heap.size w' v' es ∧ Below w.heap.size w w')
  rw [HP.out]
  obtain ⟨ao, cap, rfl, hcap, hmax⟩ := h.slice
  have keq := fun (w : World) (a : Option Addr) (n c : Nat) => Lib.run_eql_slice_nil (P := Try.prog) w 32 36 a n c 0 0 Try.underlying32
  have Hn := Lib.hid hn
  clear hn hmax
  cases ao with
  | none =>
    obtain ⟨rfl, rfl⟩ := h.isNil
    clear h
    go_enter Try.func105, Try.ntmps105
    go_wp2_with fail
    rw [← HP.out]
    exact ⟨_, rfl, World.ownsRow_nil _ _ _ _, Below.refl _ _⟩
  | some a =>
    have hsrc := src_sl (P := Try.prog) (tx := 32) rowB Try.underlying32 (by decide) rowB_len rowB_one (h.frame (Plain.good _) (Agree.alloc F w (.cells #[] 36)))
    have Hs := Lib.hid hsrc
    have Ho := Lib.hid (own_empty w 36 2)
    clear h hsrc
    go_enter Try.func105, Try.ntmps105
    go_wp2_with (at_builtin; refine wpList_append_src rfl _ _ 32 32 rfl w.heap.size 36 _ 2 24 Try.underlying32 info_bnd rfl _ _ _ rfl Ho.out _ _ _ rfl Hs.out (by have := Hn.out; unfold maxLen; omega) (by have := Hn.out; omega) (by simp) ?_)
    intro v' w2 ho hg
    go_wp2_with fail
    rw [← HP.out]
    refine ⟨_, rfl, ho, ?_⟩
    exact ((Below.refl w.heap.size w).alloc (Nat.le_refl _) (.cells #[] 36)).trans (grown_below hg (Nat.le_refl _) (by simp))

set_option maxHeartbeats 1000000 in
theorem same_bnds (v v2 : Value) (l : List BoundP) (F G : Nat → Prop) (w : World) (h : Bnds F w v l) (h2 : Bnds G w v2 l) :
    Calls Try.prog 24 #[v, v2] w fun e w' => e = .returned (.bool true) ∧ Below w.heap.size w w' := by
  obtain ⟨ao, cap, rfl, hcap, hmax⟩ := h.slice
  obtain ⟨ao2, cap2, rfl, hcap2, _⟩ := h2.slice
  have HF : Hid (∀ w', Below w.heap.size w w' → Bnds F w' (.slice ao l.length cap) l) := fun w' hb => h.frame (Plain.good _) (Agree.below hb)
  have HG : Hid (∀ w', Below w.heap.size w w' → Bnds G w' (.slice ao2 l.length cap2) l) := fun w' hb => h2.frame (Plain.good _) (Agree.below hb)
  clear h h2
  go_enter Try.func24, Try.ntmps24
  go_wp2_with fail
  go_loopw [5] (fun i wr => ∃ k : Nat, i = .int .i64 k ∧ k ≤ l.length ∧ Hid (Below w.heap.size w wr)) (fun i _ => l.length - (intOf i).toNat)
  case atStart => exact ⟨0, rfl, Nat.zero_le _, Below.refl _ _⟩
  case round =>
    obtain ⟨k, rfl, hkl, hb⟩ := hrel
    by_cases hlt : k < l.length
    · obtain ⟨b, off, rfl, c0, c1⟩ := Sl.two (HF.out _ hb.out) hlt
      obtain ⟨b', off', rfl, d0, d1⟩ := Sl.two (HG.out _ hb.out) hlt
      obtain ⟨y, hy⟩ := hide l[k]
      rw [hy.out] at c0 c1 d0 d1
      go_wp2_with fail
      go_region
      have hb3 : Hid (Below w.heap.size w wr.drew) := hb.out.drew
      go_wp2_with fail
      go_roundw
      case rel => exact ⟨k + 1, by go_num, by omega, hb3⟩
      case measure => simp [intOf]; omega
    · obtain rfl : k = l.length := by omega
      go_wp2_with fail
      go_ret
      exact ⟨rfl, hb.out⟩

def hasUp (l : List BoundP) (fr up : List UInt8) (h : Int) (b : BoundP) : Bool := !(b.host != h && lt fr b.frm && within b.frm fr up)
set_option maxHeartbeats 2000000 in
theorem has_law (v : Value) (l : List BoundP) (fr up : List UInt8) (h : Int) (F : Nat → Prop) (w : World) (hv : Bnds F w v l) (hk : okB l = true) (hn : l.length ≤ 4611686018427387903) :
    Calls Try.prog 27 #[v, str fr, str up, .int .i64 h] w fun e w' => e = .returned (.bool (hasP l fr up h)) ∧ Below w.heap.size w w' := by
  obtain ⟨ao, cap, rfl, hcap, hmax⟩ := hv.slice
  have HF : Hid (∀ w', Below w.heap.size w w' → Bnds F w' (.slice ao l.length cap) l) := fun w' hb => hv.frame (Plain.good _) (Agree.below hb)
  have KA := Lib.hid (at_law fr _ l F w hv hk hn)
  have KI := Lib.hid (fun x w => in_law x fr up w)
  have hP : hasP l fr up h = if (up != [] && !(lt fr up)) || hostOf fr l != h then false else l.all (hasUp l fr up h) := rfl
  obtain ⟨R, hR⟩ := hide (hasP l fr up h)
  rw [hR.out] at hP ⊢
  obtain ⟨H, hH⟩ := hide (hostOf fr l)
  rw [hH.out] at KA hP
  have HP := Lib.hid hP
  clear hv hk hP
  go_enter Try.func27, Try.ntmps27
  have hrest : ∀ (x : Bool), (up != [] && !(lt fr up)) = x → Hid (R = if x || H != h then false else l.all (hasUp l fr up h)) := fun x hx => by show _ = _; rw [← hx]; exact HP.out
  cases e1 : (up == [])
  · cases e2 : lt fr up
    · have HR : Hid (R = false) := by have := (hrest true (by rw [bne, e1, e2]; rfl)).out; show _ = _; simpa using this
      have e2' := (show Op.bytesLess fr up = false from e2)
      clear e2 hrest
      go_wp2_with fail
      go_ret
      exact ⟨by rw [HR.out] <;> rfl, Below.refl _ _⟩
    · have HR := hrest false (by rw [bne, e1, e2]; rfl)
      have e2' := (show Op.bytesLess fr up = true from e2)
      clear e2 hrest
      go_wp2_with fail
      refine KA.out.mono ?_
      rintro e w1 ⟨rfl, hb1⟩
      have Hb1 := Lib.hid hb1
      clear hb1
      cases e4 : (H != h)
      · have HA : Hid ((∀ j (hj : j < l.length), hasUp l fr up h l[j] = true) → R = true) := fun hh => by
          rw [HR.out, e4]
          exact List.all_eq_true.2 (fun x hx => by obtain ⟨j, hj, rfl⟩ := List.getElem_of_mem hx; exact hh j hj)
        have HN : Hid (∀ j (hj : j < l.length), hasUp l fr up h l[j] = false → R = false) := fun j hj hh => by
          rw [HR.out, e4]
          exact List.all_eq_false.2 ⟨_, List.getElem_mem hj, by rw [hh]; decide⟩
        clear HR
        go_wp2_with fail
        go_loopw [27] (fun i wr => ∃ k : Nat, i = .int .i64 k ∧ k ≤ l.length ∧ Hid (∀ j (hj : j < l.length), j < k → hasUp l fr up h l[j] = true) ∧ Hid (Below w.heap.size w wr)) (fun i _ => l.length - (intOf i).toNat)
        case atStart => exact ⟨0, rfl, Nat.zero_le _, fun j _ h => by omega, Hb1⟩
        case round =>
          obtain ⟨k, rfl, hkl, hok, hb⟩ := hrel
          by_cases hlt : k < l.length
          · obtain ⟨b, off, rfl, c0, c1⟩ := Sl.two (HF.out _ hb.out) hlt
            have HN2 := Lib.hid (HN.out k hlt)
            have HS : Hid (hasUp l fr up h l[k] = true → ∀ j (hj : j < l.length), j < k + 1 → hasUp l fr up h l[j] = true) := fun hh j hj hj2 => by
              rcases Nat.lt_or_ge j k with h1 | h1
              · exact hok.out j hj h1
              · have : j = k := by omega
                subst this
                exact hh
            obtain ⟨y, hy⟩ := hide l[k]
            rw [hy.out] at c0 c1 HN2 HS
            have hu : hasUp l fr up h y = !(y.host != h && lt fr y.frm && within y.frm fr up) := rfl
            obtain ⟨r, hr⟩ := hide (within y.frm fr up)
            have KI2 := Lib.hid (fun w => KI.out y.frm w)
            rw [hr.out] at hu KI2
            have hg := gt_lt y.frm fr
            obtain ⟨V, hV⟩ := hide (wr.alloc (.cells #[str y.frm, .int .i64 y.host] 36))
            obtain ⟨B, hB⟩ := hide wr.heap.size
            have hcV : V.heap[B]? = some (.cells #[str y.frm, .int .i64 y.host] 36 (0, 0)) := by rw [← hV.out, ← hB.out]; exact hp_at _ _ rfl
            have d0 := cell_n hcV 0 (v := str y.frm) rfl
            have d1 := cell_n hcV 1 (v := .int .i64 y.host) rfl
            have HbV : Hid (Below w.heap.size w V) := by show Below _ _ _; rw [← hV.out]; exact hb.out.alloc hb.out.size _
            have Hu := Lib.hid hu
            clear hcV hu
            go_upto_region 6 with fail
            rw [hV.out, hB.out]
            cases a1 : (y.host != h)
            · have HK := Lib.hid (HS.out (by rw [Hu.out, a1]; rfl))
              clear hg
              go_wp2_with fail
              go_roundw
              case rel => exact ⟨k + 1, by go_num, by omega, HK, HbV⟩
              case measure => simp [intOf]; omega
            · cases a2 : lt fr y.frm
              · have HK := Lib.hid (HS.out (by rw [Hu.out, a1, a2]; rfl))
                rw [a2] at hg
                have hg' : (Op.bytesLess y.frm fr || y.frm == fr) = true := by have h9 := congrArg not hg; rw [Bool.not_not] at h9; exact h9
                clear hg a2
                go_wp2_with fail
                go_roundw
                case rel => exact ⟨k + 1, by go_num, by omega, HK, HbV⟩
                case measure => simp [intOf]; omega
              · rw [a2] at hg
                have hg' : (Op.bytesLess y.frm fr || y.frm == fr) = false := by have h9 := congrArg not hg; rw [Bool.not_not] at h9; exact h9
                cases r
                · have HK := Lib.hid (HS.out (by rw [Hu.out, a1, a2]; rfl))
                  clear hg a2
                  go_wp2_with (go_at_call 111; refine (KI2.out _).mono ?_; rintro e w2 ⟨rfl, rfl⟩)
                  go_roundw
                  case rel => exact ⟨k + 1, by go_num, by omega, HK, HbV⟩
                  case measure => simp [intOf]; omega
                · have HR : Hid (R = false) := HN2.out (by rw [Hu.out, a1, a2]; rfl)
                  clear hg a2
                  go_wp2_with (go_at_call 111; refine (KI2.out _).mono ?_; rintro e w2 ⟨rfl, rfl⟩)
                  go_ret
                  exact ⟨by rw [HR.out] <;> rfl, HbV.out⟩
          · obtain rfl : k = l.length := by omega
            have HR : Hid (R = true) := HA.out (fun j hj => hok.out j hj hj)
            go_wp2_with fail
            go_ret
            exact ⟨by rw [HR.out] <;> rfl, hb.out⟩
      · have HR2 : Hid (R = false) := by show _ = _; rw [HR.out, e4]; rfl
        clear HR
        go_wp2_with fail
        go_ret
        exact ⟨by rw [HR2.out] <;> rfl, Hb1.out⟩
  · have HR := hrest false (by rw [bne, e1]; rfl)
    clear hrest
    go_wp2_with fail
    refine KA.out.mono ?_
    rintro e w1 ⟨rfl, hb1⟩
    have Hb1 := Lib.hid hb1
    clear hb1
    cases e4 : (H != h)
    · have HA : Hid ((∀ j (hj : j < l.length), hasUp l fr up h l[j] = true) → R = true) := fun hh => by
        rw [HR.out, e4]
        exact List.all_eq_true.2 (fun x hx => by obtain ⟨j, hj, rfl⟩ := List.getElem_of_mem hx; exact hh j hj)
      have HN : Hid (∀ j (hj : j < l.length), hasUp l fr up h l[j] = false → R = false) := fun j hj hh => by
        rw [HR.out, e4]
        exact List.all_eq_false.2 ⟨_, List.getElem_mem hj, by rw [hh]; decide⟩
      clear HR
      go_wp2_with fail
      go_loopw [27] (fun i wr => ∃ k : Nat, i = .int .i64 k ∧ k ≤ l.length ∧ Hid (∀ j (hj : j < l.length), j < k → hasUp l fr up h l[j] = true) ∧ Hid (Below w.heap.size w wr)) (fun i _ => l.length - (intOf i).toNat)
      case atStart => exact ⟨0, rfl, Nat.zero_le _, fun j _ h => by omega, Hb1⟩
      case round =>
        obtain ⟨k, rfl, hkl, hok, hb⟩ := hrel
        by_cases hlt : k < l.length
        · obtain ⟨b, off, rfl, c0, c1⟩ := Sl.two (HF.out _ hb.out) hlt
          have HN2 := Lib.hid (HN.out k hlt)
          have HS : Hid (hasUp l fr up h l[k] = true → ∀ j (hj : j < l.length), j < k + 1 → hasUp l fr up h l[j] = true) := fun hh j hj hj2 => by
            rcases Nat.lt_or_ge j k with h1 | h1
            · exact hok.out j hj h1
            · have : j = k := by omega
              subst this
              exact hh
          obtain ⟨y, hy⟩ := hide l[k]
          rw [hy.out] at c0 c1 HN2 HS
          have hu : hasUp l fr up h y = !(y.host != h && lt fr y.frm && within y.frm fr up) := rfl
          obtain ⟨r, hr⟩ := hide (within y.frm fr up)
          have KI2 := Lib.hid (fun w => KI.out y.frm w)
          rw [hr.out] at hu KI2
          have hg := gt_lt y.frm fr
          obtain ⟨V, hV⟩ := hide (wr.alloc (.cells #[str y.frm, .int .i64 y.host] 36))
          obtain ⟨B, hB⟩ := hide wr.heap.size
          have hcV : V.heap[B]? = some (.cells #[str y.frm, .int .i64 y.host] 36 (0, 0)) := by rw [← hV.out, ← hB.out]; exact hp_at _ _ rfl
          have d0 := cell_n hcV 0 (v := str y.frm) rfl
          have d1 := cell_n hcV 1 (v := .int .i64 y.host) rfl
          have HbV : Hid (Below w.heap.size w V) := by show Below _ _ _; rw [← hV.out]; exact hb.out.alloc hb.out.size _
          have Hu := Lib.hid hu
          clear hcV hu
          go_upto_region 6 with fail
          rw [hV.out, hB.out]
          cases a1 : (y.host != h)
          · have HK := Lib.hid (HS.out (by rw [Hu.out, a1]; rfl))
            clear hg
            go_wp2_with fail
            go_roundw
            case rel => exact ⟨k + 1, by go_num, by omega, HK, HbV⟩
            case measure => simp [intOf]; omega
          · cases a2 : lt fr y.frm
            · have HK := Lib.hid (HS.out (by rw [Hu.out, a1, a2]; rfl))
              rw [a2] at hg
              have hg' : (Op.bytesLess y.frm fr || y.frm == fr) = true := by have h9 := congrArg not hg; rw [Bool.not_not] at h9; exact h9
              clear hg a2
              go_wp2_with fail
              go_roundw
              case rel => exact ⟨k + 1, by go_num, by omega, HK, HbV⟩
              case measure => simp [intOf]; omega
            · rw [a2] at hg
              have hg' : (Op.bytesLess y.frm fr || y.frm == fr) = false := by have h9 := congrArg not hg; rw [Bool.not_not] at h9; exact h9
              cases r
              · have HK := Lib.hid (HS.out (by rw [Hu.out, a1, a2]; rfl))
                clear hg a2
                go_wp2_with (go_at_call 111; refine (KI2.out _).mono ?_; rintro e w2 ⟨rfl, rfl⟩)
                go_roundw
                case rel => exact ⟨k + 1, by go_num, by omega, HK, HbV⟩
                case measure => simp [intOf]; omega
              · have HR : Hid (R = false) := HN2.out (by rw [Hu.out, a1, a2]; rfl)
                clear hg a2
                go_wp2_with (go_at_call 111; refine (KI2.out _).mono ?_; rintro e w2 ⟨rfl, rfl⟩)
                go_ret
                exact ⟨by rw [HR.out] <;> rfl, HbV.out⟩
        · obtain rfl : k = l.length := by omega
          have HR : Hid (R = true) := HA.out (fun j hj => hok.out j hj hj)
          go_wp2_with fail
          go_ret
          exact ⟨by rw [HR.out] <;> rfl, hb.out⟩
    · have HR2 : Hid (R = false) := by show _ = _; rw [HR.out, e4]; rfl
      clear HR
      go_wp2_with fail
      go_ret
      exact ⟨by rw [HR2.out] <;> rfl, Hb1.out⟩
end Go.Proofs.Ytlknkhmhdmpdkaa
