/-
  Bounds of keys: the document's delegation, and who has all keys of a range.
-/
import Derived.Test.YtlknkhmhdmpdkaaDi
namespace Go.Proofs.Ytlknkhmhdmpdkaa
open Go.RowKit Wm Mm Dg
set_option linter.unusedVariables false
set_option linter.unusedSimpArgs false

def gP (l : List BoundP) (fr up : List UInt8) (h : Int) (x : List UInt8) : BoundP := ⟨x, if within x fr up then h else hostOf x l⟩
theorem deleg_len (l : List BoundP) (acc : List BoundP) : (l.foldl keepIf acc).length ≤ acc.length + l.length := by
  induction l generalizing acc with
  | nil => exact Nat.le_refl _
  | cons b r ih =>
    rw [List.foldl_cons]
    have := ih (keepIf acc b)
    have h2 : (keepIf acc b).length ≤ acc.length + 1 := by unfold keepIf; split <;> simp
    rw [List.length_cons]
    omega

set_option maxHeartbeats 4000000 in
set_option maxRecDepth 100000 in
theorem delegate_law (v : Value) (l : List BoundP) (fr up : List UInt8) (h : Int) (F : Nat → Prop) (w : World) (hv : Bnds F w v l) (hn : l.length ≤ 5864062014634) :
    Calls Try.prog 23 #[v, str fr, str up, .int .i64 h] w fun e w' => ∃ v', e = .returned v' ∧ OwnB w.heap.size w' v' (delegP l fr up h) ∧ Below w.heap.size w w' := by
  obtain ⟨post, HP⟩ := hide (fun (e : Ending) (w' : World) => ∃ v', e = .returned v' ∧ OwnB w.heap.size w' v' (delegP l fr up h) ∧ Below w.heap.size w w')
  rw [HP.out]
  obtain ⟨ao, cap, rfl, hcap, hmax⟩ := hv.slice
  have HF : Hid (∀ w', Below w.heap.size w w' → Bnds F w' (.slice ao l.length cap) l) := fun w' hb => hv.frame (Plain.good _) (Agree.below hb)
  have KE := Lib.hid (edges_law _ l fr up F w hv hn)
  have KW := Lib.hid (fun x w => within_law x fr up w)
  have hEl : (edgesP l fr up).length ≤ l.length + 2 := by
    have hg : ∀ (a out : List (List UInt8)), (a.foldl insertP out).length ≤ out.length + a.length := by
      intro a
      induction a with
      | nil => intro out; exact Nat.le_refl _
      | cons x r ih =>
        intro out
        rw [List.foldl_cons, List.length_cons]
        have := ih (insertP out x)
        have h2 : (insertP out x).length ≤ out.length + 1 := by
          unfold insertP
          split
          · omega
          · rw [List.length_append, List.length_take, List.length_cons, List.length_drop]
            have := below_le x out
            omega
        omega
    have := hg (allP l fr up) []
    unfold edgesP
    simp only [allP, List.length_cons, List.length_map, List.length_nil] at this ⊢
    omega
  have hE12 : (edgesP l fr up).length ≤ 5864062014636 := by omega
  have hD : delegP l fr up h = ((edgesP l fr up).map (gP l fr up h)).foldl keepIf [] := rfl
  obtain ⟨E, hE⟩ := hide (edgesP l fr up)
  rw [hE.out] at KE hE12 hD
  obtain ⟨D, hDD⟩ := hide (fun k => ((E.map (gP l fr up h)).take k).foldl keepIf [])
  have HD1 : Hid (∀ k (hk : k < E.length), D (k + 1) = keepIf (D k) (gP l fr up h E[k])) := by
    rw [← hDD.out]
    intro k hk
    have hk2 : k < (E.map (gP l fr up h)).length := by rw [List.length_map]; exact hk
    have e : (E.map (gP l fr up h)).take (k + 1) = (E.map (gP l fr up h)).take k ++ [gP l fr up h E[k]] := by rw [List.take_add_one, List.getElem?_eq_getElem hk2, List.getElem_map]; rfl
    show ((E.map (gP l fr up h)).take (k + 1)).foldl _ _ = _
    rw [e, List.foldl_append]
    rfl
  have HDE : Hid (D E.length = delegP l fr up h) := by
    show _ = _
    rw [hD, ← hDD.out]
    show ((E.map (gP l fr up h)).take E.length).foldl _ _ = _
    rw [List.take_of_length_le (by rw [List.length_map]; exact Nat.le_refl _)]
  have HDl : Hid (∀ k, k ≤ E.length → (D k).length ≤ k) := by
    rw [← hDD.out]
    intro k hk
    have := deleg_len ((E.map (gP l fr up h)).take k) []
    rw [List.length_take, List.length_map] at this
    show (((E.map (gP l fr up h)).take k).foldl keepIf []).length ≤ k
    simp at this
    omega
  have Hn := Lib.hid hn
  clear hv hn hmax hEl hD
  go_enter Try.func23, Try.ntmps23
  go_wp2_with fail
  refine KE.out.mono ?_
  rintro e w1 ⟨v1, rfl, ho1, hb1⟩
  obtain ⟨a1, c1, rfl⟩ := owns_slice ho1
  have HE1 : Hid (∀ w', Below w1.heap.size w1 w' → Txts (fun g => w.heap.size ≤ g) w' (.slice a1 E.length c1) E) := fun w' hb' => (OwnS.txts ho1).frame (Plain.good _) (Agree.below hb')
  have HF1 : Hid (∀ w', Below w1.heap.size w1 w' → Bnds F w' (.slice ao l.length cap) l) := fun w' hb' => HF.out _ (hb1.trans (hb'.mono hb1.size))
  have Hw1 : Hid (∀ w', Below w1.heap.size w1 w' → Below w.heap.size w w') := fun w' hb' => hb1.trans (hb'.mono hb1.size)
  have Hws : Hid (w.heap.size ≤ w1.heap.size) := hb1.size
  clear ho1 hb1
  go_wp2_with fail
  go_loopw [10, 11] (fun s i wr => ∃ k : Nat, ∃ a c, i = .int .i64 k ∧ k ≤ E.length ∧ s = .slice a (D k).length c ∧ Hid (OwnB w1.heap.size wr (.slice a (D k).length c) (D k)) ∧ Hid (Below w1.heap.size w1 wr)) (fun _ i _ => E.length - (intOf i).toNat)
  case atStart => exact ⟨0, none, 0, rfl, Nat.zero_le _, by rw [← hDD.out]; rfl, by rw [← hDD.out]; exact World.ownsRow_nil _ _ _ _, Below.refl _ _⟩
  case round =>
    obtain ⟨k, a, c, rfl, hkE, rfl, ho, hb⟩ := hrel
    by_cases hlt : k < E.length
    · have hkb : k ≤ 5864062014636 := by omega
      have hd1 := HD1.out k hlt
      have hdl := HDl.out k hkE
      obtain ⟨bx, offx, rfl, cx⟩ := Sl.one (HE1.out _ hb.out) hlt
      obtain ⟨x, hx⟩ := hide E[k]
      rw [hx.out] at hd1 cx
      have KH := Lib.hid (hostOf_law x _ l F wr (HF1.out _ hb.out))
      obtain ⟨H, hH⟩ := hide (hostOf x l)
      rw [hH.out] at KH
      have KW2 := Lib.hid (fun w => KW.out x w)
      have hg : gP l fr up h x = ⟨x, if within x fr up then h else H⟩ := by unfold gP; rw [hH.out]
      rw [hg] at hd1
      obtain ⟨q, hq⟩ := hide (within x fr up)
      rw [hq.out] at KW2 hd1
      obtain ⟨hh, hhh⟩ : ∃ hh : Int, hh = if q then h else H := ⟨_, rfl⟩
      rw [← hhh] at hd1
      obtain ⟨L, hL⟩ := hide (D k)
      rw [hL.out] at ho hd1 hdl ⊢
      have Hd1 := Lib.hid hd1
      have HSW : Hid (w1.heap.size ≤ wr.heap.size) := hb.out.size
      have HLB : Hid (L.length ≤ 5864062014636) := by show _ ≤ _; omega
      have hLm : L.length ≤ 5864062014636 := by omega
      clear hd1 hg
      cases q
      · have e0 : hh = H := by simpa using hhh
        rw [e0] at Hd1
        clear hhh e0
        go_upto_region 10 with (first
          | (go_at_call 26; refine KH.out.mono ?_; rintro e w2 ⟨rfl, rfl⟩)
          | (go_at_call 109; refine (KW2.out _).mono ?_; rintro e w2 ⟨rfl, rfl⟩))
        by_cases h0 : L.length = 0
        · have hL0 : L = [] := List.length_eq_zero_iff.1 h0
          have HD2 : Hid (D (k + 1) = L ++ [⟨x, H⟩]) := by show _ = _; rw [Hd1.out, hL0]; rfl
          have t0 : ((L.length : Int) == 0) = true := by rw [h0]; rfl
          have t1 : (L.length == 0) = true := by rw [h0]; rfl
          clear hL0 h0
          go_wp2_with (at_builtin; refine wpList_push rfl _ _ 32 rfl w1.heap.size 36 _ 2 24 Try.underlying32 info_bnd rfl (by decide) _ _ _ rfl ho.out _ rfl rfl (by intro u hu; simp at hu; rcases hu with hu | hu <;> (subst hu; rfl)) (by have := HLB.out; unfold maxLen; omega) (by have := HLB.out; omega) HSW.out ?_)
          intro v5 w5 ho5 hg5
          obtain ⟨a5, c5, rfl⟩ := owns_slice ho5
          have Ho5 : Hid (OwnB w1.heap.size w5 (.slice a5 (D (k + 1)).length c5) (D (k + 1))) := by
            show w5.ownsRow _ _ _ _ _ _
            rw [HD2.out, List.length_append, List.flatMap_append]
            exact ho5
          have Hb5 : Hid (Below w1.heap.size w1 w5) := hb.out.trans (below_own ho.out hg5 (Nat.le_refl _) HSW.out)
          clear ho5 hg5
          go_wp2_with fail
          go_roundw
          case rel => exact ⟨k + 1, a5, c5, by go_num, by omega, by rw [HD2.out, List.length_append]; rfl, Ho5, Hb5⟩
          case measure => simp [intOf]; omega
        · have hn1 : L.length - 1 < L.length := by omega
          obtain ⟨bo, offo, rfl, d0, d1⟩ := Sl.two (OwnB.bnds ho.out) hn1
          have hlast : L.getLast?.map BoundP.host = some L[L.length - 1].host := by rw [List.getLast?_eq_getElem?, List.getElem?_eq_getElem hn1]; rfl
          obtain ⟨y, hy⟩ := hide L[L.length - 1]
          rw [hy.out] at d0 d1 hlast
          have hkp : keepIf L ⟨x, H⟩ = if y.host = H then L else L ++ [⟨x, H⟩] := by
            unfold keepIf
            rw [hlast]
            by_cases e : y.host = H
            · rw [if_pos (by rw [e]), if_pos e]
            · rw [if_neg (fun k => e (Option.some.inj k)), if_neg e]
          have t0 : ((L.length : Int) == 0) = false := beq_eq_false_iff_ne.2 (by omega)
          have t1 : (L.length == 0) = false := beq_eq_false_iff_ne.2 (by omega)
          have hw : IntKind.i64.wrap ((L.length : Int) - 1) = ((L.length - 1 : Nat) : Int) := by rw [IntWalk.i64_in _ (by omega)]; omega
          by_cases e : y.host = H
          · have HD2 : Hid (D (k + 1) = L) := by show _ = _; rw [Hd1.out, hkp, if_pos e]
            have t2 : (y.host != H) = false := by simp [e]
            have t3 : (y.host == H) = true := by simp [e]
            clear e hkp hlast h0
            go_wp2_with fail
            go_roundw
            case rel => exact ⟨k + 1, _, c, by go_num, by omega, by rw [HD2.out], by rw [HD2.out]; exact ho, hb⟩
            case measure => simp [intOf]; omega
          · have HD2 : Hid (D (k + 1) = L ++ [⟨x, H⟩]) := by show _ = _; rw [Hd1.out, hkp, if_neg e]
            have t2 : (y.host != H) = true := by simp [e]
            have t3 : (y.host == H) = false := by simp [e]
            clear e hkp hlast h0
            go_wp2_with (at_builtin; refine wpList_push rfl _ _ 32 rfl w1.heap.size 36 _ 2 24 Try.underlying32 info_bnd rfl (by decide) _ _ _ rfl ho.out _ rfl rfl (by intro u hu; simp at hu; rcases hu with hu | hu <;> (subst hu; rfl)) (by have := HLB.out; unfold maxLen; omega) (by have := HLB.out; omega) HSW.out ?_)
            intro v5 w5 ho5 hg5
            obtain ⟨a5, c5, rfl⟩ := owns_slice ho5
            have Ho5 : Hid (OwnB w1.heap.size w5 (.slice a5 (D (k + 1)).length c5) (D (k + 1))) := by
              show w5.ownsRow _ _ _ _ _ _
              rw [HD2.out, List.length_append, List.flatMap_append]
              exact ho5
            have Hb5 : Hid (Below w1.heap.size w1 w5) := hb.out.trans (below_own ho.out hg5 (Nat.le_refl _) HSW.out)
            clear ho5 hg5
            go_wp2_with fail
            go_roundw
            case rel => exact ⟨k + 1, a5, c5, by go_num, by omega, by rw [HD2.out, List.length_append]; rfl, Ho5, Hb5⟩
            case measure => simp [intOf]; omega
      · have e0 : hh = h := by simpa using hhh
        rw [e0] at Hd1
        clear hhh e0
        go_upto_region 10 with (first
          | (go_at_call 26; refine KH.out.mono ?_; rintro e w2 ⟨rfl, rfl⟩)
          | (go_at_call 109; refine (KW2.out _).mono ?_; rintro e w2 ⟨rfl, rfl⟩))
        by_cases h0 : L.length = 0
        · have hL0 : L = [] := List.length_eq_zero_iff.1 h0
          have HD2 : Hid (D (k + 1) = L ++ [⟨x, h⟩]) := by show _ = _; rw [Hd1.out, hL0]; rfl
          have t0 : ((L.length : Int) == 0) = true := by rw [h0]; rfl
          have t1 : (L.length == 0) = true := by rw [h0]; rfl
          clear hL0 h0
          go_wp2_with (at_builtin; refine wpList_push rfl _ _ 32 rfl w1.heap.size 36 _ 2 24 Try.underlying32 info_bnd rfl (by decide) _ _ _ rfl ho.out _ rfl rfl (by intro u hu; simp at hu; rcases hu with hu | hu <;> (subst hu; rfl)) (by have := HLB.out; unfold maxLen; omega) (by have := HLB.out; omega) HSW.out ?_)
          intro v5 w5 ho5 hg5
          obtain ⟨a5, c5, rfl⟩ := owns_slice ho5
          have Ho5 : Hid (OwnB w1.heap.size w5 (.slice a5 (D (k + 1)).length c5) (D (k + 1))) := by
            show w5.ownsRow _ _ _ _ _ _
            rw [HD2.out, List.length_append, List.flatMap_append]
            exact ho5
          have Hb5 : Hid (Below w1.heap.size w1 w5) := hb.out.trans (below_own ho.out hg5 (Nat.le_refl _) HSW.out)
          clear ho5 hg5
          go_wp2_with fail
          go_roundw
          case rel => exact ⟨k + 1, a5, c5, by go_num, by omega, by rw [HD2.out, List.length_append]; rfl, Ho5, Hb5⟩
          case measure => simp [intOf]; omega
        · have hn1 : L.length - 1 < L.length := by omega
          obtain ⟨bo, offo, rfl, d0, d1⟩ := Sl.two (OwnB.bnds ho.out) hn1
          have hlast : L.getLast?.map BoundP.host = some L[L.length - 1].host := by rw [List.getLast?_eq_getElem?, List.getElem?_eq_getElem hn1]; rfl
          obtain ⟨y, hy⟩ := hide L[L.length - 1]
          rw [hy.out] at d0 d1 hlast
          have hkp : keepIf L ⟨x, h⟩ = if y.host = h then L else L ++ [⟨x, h⟩] := by
            unfold keepIf
            rw [hlast]
            by_cases e : y.host = h
            · rw [if_pos (by rw [e]), if_pos e]
            · rw [if_neg (fun k => e (Option.some.inj k)), if_neg e]
          have t0 : ((L.length : Int) == 0) = false := beq_eq_false_iff_ne.2 (by omega)
          have t1 : (L.length == 0) = false := beq_eq_false_iff_ne.2 (by omega)
          have hw : IntKind.i64.wrap ((L.length : Int) - 1) = ((L.length - 1 : Nat) : Int) := by rw [IntWalk.i64_in _ (by omega)]; omega
          by_cases e : y.host = h
          · have HD2 : Hid (D (k + 1) = L) := by show _ = _; rw [Hd1.out, hkp, if_pos e]
            have t2 : (y.host != h) = false := by simp [e]
            have t3 : (y.host == h) = true := by simp [e]
            clear e hkp hlast h0
            go_wp2_with fail
            go_roundw
            case rel => exact ⟨k + 1, _, c, by go_num, by omega, by rw [HD2.out], by rw [HD2.out]; exact ho, hb⟩
            case measure => simp [intOf]; omega
          · have HD2 : Hid (D (k + 1) = L ++ [⟨x, h⟩]) := by show _ = _; rw [Hd1.out, hkp, if_neg e]
            have t2 : (y.host != h) = true := by simp [e]
            have t3 : (y.host == h) = false := by simp [e]
            clear e hkp hlast h0
            go_wp2_with (at_builtin; refine wpList_push rfl _ _ 32 rfl w1.heap.size 36 _ 2 24 Try.underlying32 info_bnd rfl (by decide) _ _ _ rfl ho.out _ rfl rfl (by intro u hu; simp at hu; rcases hu with hu | hu <;> (subst hu; rfl)) (by have := HLB.out; unfold maxLen; omega) (by have := HLB.out; omega) HSW.out ?_)
            intro v5 w5 ho5 hg5
            obtain ⟨a5, c5, rfl⟩ := owns_slice ho5
            have Ho5 : Hid (OwnB w1.heap.size w5 (.slice a5 (D (k + 1)).length c5) (D (k + 1))) := by
              show w5.ownsRow _ _ _ _ _ _
              rw [HD2.out, List.length_append, List.flatMap_append]
              exact ho5
            have Hb5 : Hid (Below w1.heap.size w1 w5) := hb.out.trans (below_own ho.out hg5 (Nat.le_refl _) HSW.out)
            clear ho5 hg5
            go_wp2_with fail
            go_roundw
            case rel => exact ⟨k + 1, a5, c5, by go_num, by omega, by rw [HD2.out, List.length_append]; rfl, Ho5, Hb5⟩
            case measure => simp [intOf]; omega
    · obtain rfl : k = E.length := by omega
      rw [HDE.out] at ho ⊢
      go_wp2_with fail
      rw [← HP.out]
      exact ⟨_, rfl, own_base ho.out Hws.out, Hw1.out _ hb.out⟩

def okE (l : List BoundP) (fr up : List UInt8) (h : Int) (x : List UInt8) : Bool := !(within x fr up && hostOf x l != h)
set_option maxHeartbeats 4000000 in
theorem hasAll_law (v : Value) (l : List BoundP) (fr up : List UInt8) (h : Int) (F : Nat → Prop) (w : World) (hv : Bnds F w v l) (hn : l.length ≤ 5864062014634) :
    Calls Try.prog 28 #[v, str fr, str up, .int .i64 h] w fun e w' => e = .returned (.bool (hasAllP l fr up h)) ∧ Below w.heap.size w w' := by
  obtain ⟨ao, cap, rfl, hcap, hmax⟩ := hv.slice
  have HF : Hid (∀ w', Below w.heap.size w w' → Bnds F w' (.slice ao l.length cap) l) := fun w' hb => hv.frame (Plain.good _) (Agree.below hb)
  have KE := Lib.hid (edges_law _ l fr up F w hv hn)
  have KW := Lib.hid (fun x w => within_law x fr up w)
  have hP : hasAllP l fr up h = ((edgesP l fr up).all (okE l fr up h) && (up == [] || lt fr up)) := rfl
  obtain ⟨R, hR⟩ := hide (hasAllP l fr up h)
  rw [hR.out] at hP ⊢
  obtain ⟨E, hE⟩ := hide (edgesP l fr up)
  rw [hE.out] at KE hP
  have HP := Lib.hid hP
  clear hv hn hmax hP
  go_enter Try.func28, Try.ntmps28
  go_wp2_with fail
  refine KE.out.mono ?_
  rintro e w1 ⟨v1, rfl, ho1, hb1⟩
  obtain ⟨a1, c1, rfl⟩ := owns_slice ho1
  have HE1 : Hid (∀ w', Below w1.heap.size w1 w' → Txts (fun g => w.heap.size ≤ g) w' (.slice a1 E.length c1) E) := fun w' hb' => (OwnS.txts ho1).frame (Plain.good _) (Agree.below hb')
  have HF1 : Hid (Bnds F w1 (.slice ao l.length cap) l) := HF.out _ hb1
  have Hb1 := Lib.hid hb1
  have hEm : E.length ≤ 9223372036854775807 := by
    obtain ⟨_, _, _, _, h9⟩ := (HE1.out _ (Below.refl _ _)).slice
    exact h9
  clear ho1 hb1
  go_wp2_with fail
  go_loopw [10] (fun i wr => ∃ k : Nat, i = .int .i64 k ∧ k ≤ E.length ∧ Hid (∀ j (hj : j < E.length), j < k → okE l fr up h E[j] = true) ∧ w1 = wr) (fun i _ => E.length - (intOf i).toNat)
  case atStart => exact ⟨0, rfl, Nat.zero_le _, fun j _ h => by omega, rfl⟩
  case round =>
    obtain ⟨k, rfl, hkE, hok, rfl⟩ := hrel
    by_cases hlt : k < E.length
    · obtain ⟨bx, offx, rfl, cx⟩ := Sl.one (HE1.out _ (Below.refl _ _)) hlt
      have HN : Hid (okE l fr up h E[k] = false → R = false) := fun hh => by
        rw [HP.out, List.all_eq_false.2 ⟨_, List.getElem_mem hlt, by rw [hh]; decide⟩]
        rfl
      have HS : Hid (okE l fr up h E[k] = true → ∀ j (hj : j < E.length), j < k + 1 → okE l fr up h E[j] = true) := fun hh j hj hj2 => by
        rcases Nat.lt_or_ge j k with h1 | h1
        · exact hok.out j hj h1
        · have : j = k := by omega
          subst this
          exact hh
      obtain ⟨x, hx⟩ := hide E[k]
      rw [hx.out] at cx HN HS
      have hu : okE l fr up h x = !(within x fr up && hostOf x l != h) := rfl
      have KH := Lib.hid (hostOf_law x _ l F w1 HF1.out)
      obtain ⟨H, hH⟩ := hide (hostOf x l)
      rw [hH.out] at KH hu
      have KW2 := Lib.hid (fun w => KW.out x w)
      obtain ⟨q, hq⟩ := hide (within x fr up)
      rw [hq.out] at KW2 hu
      have Hu := Lib.hid hu
      clear hu
      cases q
      · have HK := Lib.hid (HS.out (by rw [Hu.out]; rfl))
        go_wp2_with (go_at_call 109; refine (KW2.out _).mono ?_; rintro e w2 ⟨rfl, rfl⟩)
        go_roundw
        case rel => exact ⟨k + 1, by go_num, by omega, HK, by first | trivial | rfl⟩
        case measure => simp [intOf]; omega
      · cases hHh : (H != h)
        · have HK := Lib.hid (HS.out (by rw [Hu.out, hHh]; rfl))
          go_wp2_with (first
            | (go_at_call 109; refine (KW2.out _).mono ?_; rintro e w2 ⟨rfl, rfl⟩)
            | (go_at_call 26; refine KH.out.mono ?_; rintro e w2 ⟨rfl, rfl⟩))
          go_roundw
          case rel => exact ⟨k + 1, by go_num, by omega, HK, by first | trivial | rfl⟩
          case measure => simp [intOf]; omega
        · have HR : Hid (R = false) := HN.out (by rw [Hu.out, hHh]; rfl)
          go_wp2_with (first
            | (go_at_call 109; refine (KW2.out _).mono ?_; rintro e w2 ⟨rfl, rfl⟩)
            | (go_at_call 26; refine KH.out.mono ?_; rintro e w2 ⟨rfl, rfl⟩))
          go_ret
          exact ⟨by rw [HR.out] <;> rfl, Hb1.out⟩
    · obtain rfl : k = E.length := by omega
      have hall : E.all (okE l fr up h) = true := List.all_eq_true.2 (fun x hx => by obtain ⟨j, hj, rfl⟩ := List.getElem_of_mem hx; exact hok.out j hj hj)
      have hR2 : (up == [] || lt fr up) = R := by rw [HP.out, hall, Bool.true_and]
      clear hall
      cases e1 : (up == []) <;> cases e2 : lt fr up
      all_goals
        rw [e1, e2] at hR2
        simp only [Bool.or_true, Bool.or_false] at hR2
        subst hR2
        have e2' := (show Op.bytesLess fr up = _ from e2)
        clear e2
        go_wp2_with fail
        go_ret
        exact ⟨rfl, Hb1.out⟩
end Go.Proofs.Ytlknkhmhdmpdkaa
