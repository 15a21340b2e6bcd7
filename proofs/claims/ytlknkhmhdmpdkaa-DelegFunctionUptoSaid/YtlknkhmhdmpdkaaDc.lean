/-
  Bounds of keys: the search, who has a key, ranges: walks.
-/
import Derived.Test.YtlknkhmhdmpdkaaRa
import Derived.Test.YtlknkhmhdmpdkaaDb
namespace Go.Proofs.Ytlknkhmhdmpdkaa
open Go.RowKit Wm Mm Dg
set_option linter.unusedVariables false
set_option linter.unusedSimpArgs false

abbrev rowB (b : BoundP) : List Value := [str b.frm, .int .i64 b.host]
abbrev Bnds (F : Nat → Prop) (w : World) (v : Value) (l : List BoundP) : Prop := Sl 2 (Plain rowB) F w v l
theorem info_bnd : (Try.prog.info? 36).map (fun i => (i.zero, i.size, i.bytes)) = some (some (.agg #[.string ByteArray.empty, .int .i64 0]), 2, 24) := by kernel_rfl
theorem rowB_len (b : BoundP) : (rowB b).length = 2 := rfl
theorem rowB_one (b : BoundP) : ∀ u ∈ rowB b, u.oneCell' = true := by intro u hu; simp at hu; rcases hu with rfl | rfl <;> rfl
abbrev OwnB (S : Nat) (w : World) (v : Value) (l : List BoundP) : Prop := w.ownsRow S 36 2 v l.length (l.flatMap rowB)
theorem OwnB.bnds {S : Nat} {w : World} {v : Value} {l : List BoundP} (h : OwnB S w v l) : Bnds (fun k => S ≤ k) w v l := Sl.own rowB rowB_len h (fun _ _ => rfl) (fun _ _ h _ => h)
/-- the cells of one bound -/
theorem Sl.two {F : Nat → Prop} {w : World} {a : Option Addr} {n c : Nat} {l : List BoundP} (h : Bnds F w (.slice a n c) l) {k : Nat} (hk : k < l.length) :
    ∃ b off, a = some ⟨b, off, none⟩ ∧ w.cell? ⟨b, off + k * 2, none⟩ = some (str l[k].frm) ∧ w.cell? ⟨b, off + k * 2 + 1, none⟩ = some (.int .i64 l[k].host) := by
  obtain ⟨b, off, us, e, _, _, hus, hcs⟩ := h.at hk
  have hus' : us = rowB l[k] := hus
  subst hus'
  exact ⟨b, off, e, hcs 0 _ rfl, hcs 1 _ rfl⟩

def cmpP (x y : List UInt8) : Int := if lt x y then -1 else if lt y x then 1 else 0
theorem cmpP_neg (x y : List UInt8) : decide (cmpP x y < 0) = lt x y := by
  unfold cmpP
  split
  · rename_i h; rw [h]; rfl
  · rename_i h
    have : lt x y = false := by simpa using h
    rw [this]
    split <;> rfl
theorem cmpP_zero (x y : List UInt8) : (cmpP x y == 0) = decide (x = y) := by
  unfold cmpP
  split
  · rename_i h; simp [lt_ne h]
  · split
    · rename_i h; simp [(lt_ne h).symm]
    · rename_i h k
      have := lt_tri (by simpa using h) (by simpa using k)
      simp [this]

set_option maxHeartbeats 1000000 in
theorem compare_str (x y : List UInt8) (w : World) : Calls Try.prog 162 #[str x, str y] w fun e w' => e = .returned (.int .i64 (cmpP x y)) ∧ w = w' := by
  have KN : ∀ (x : List UInt8) (w : World), Calls Try.prog 191 #[str x] w fun e w' => e = .returned (.bool false) ∧ w = w' := by
    intro x w
    go_enter Try.func191, Try.ntmps191
    go_wp2
    go_ret
    exact ⟨by simp, rfl⟩
  obtain ⟨post, HP⟩ := hide (fun (e : Ending) (w' : World) => e = .returned (.int .i64 (cmpP x y)) ∧ w = w')
  rw [HP.out]
  go_enter Try.func162, Try.ntmps162
  have hg := gt_lt x y
  cases h1 : lt x y
  · cases h2 : lt y x
    · have e : cmpP x y = 0 := by unfold cmpP; rw [h1, h2]; rfl
      rw [h2] at hg
      have h1' : Op.bytesLess x y = false := h1
      have hg' : (x == y) = true := by rw [h1] at hg; simpa using hg
      clear h1 h2 hg
      go_wp2_with (go_at_call 191; refine (KN _ _).mono ?_; rintro e w1 ⟨rfl, rfl⟩)
      rw [← HP.out]
      exact ⟨by rw [e]; rfl, rfl⟩
    · have e : cmpP x y = 1 := by unfold cmpP; rw [h1, h2]; rfl
      rw [h2] at hg
      have h1' : Op.bytesLess x y = false := h1
      have hg' : (x == y) = false := by rw [h1] at hg; simpa using hg
      clear h1 h2 hg
      go_wp2_with (go_at_call 191; refine (KN _ _).mono ?_; rintro e w1 ⟨rfl, rfl⟩)
      rw [← HP.out]
      exact ⟨by rw [e]; rfl, rfl⟩
  · have e : cmpP x y = -1 := by unfold cmpP; rw [h1]; rfl
    have h1' : Op.bytesLess x y = true := h1
    clear h1 hg
    go_wp2_with (go_at_call 191; refine (KN _ _).mono ?_; rintro e w1 ⟨rfl, rfl⟩)
    rw [← HP.out]
    exact ⟨by rw [e]; rfl, rfl⟩

set_option maxHeartbeats 1000000 in
theorem find_cmp (b : BoundP) (key : List UInt8) (w : World) : Calls Try.prog 161 #[.agg #[str b.frm, .int .i64 b.host], str key] w fun e w' => e = .returned (.int .i64 (cmpP b.frm key)) ∧ Below w.heap.size w w' := by
  have KC := Lib.hid (fun w' => compare_str b.frm key w')
  obtain ⟨r, hr⟩ := hide (cmpP b.frm key)
  rw [hr.out] at KC ⊢
  obtain ⟨V, hV⟩ := hide (w.alloc (.cells #[str b.frm, .int .i64 b.host] 36))
  obtain ⟨B, hB⟩ := hide w.heap.size
  have c0 : V.cell? ⟨B, 0, none⟩ = some (str b.frm) := by rw [← hV.out, ← hB.out]; exact cell_n (hp_at _ _ rfl) 0 rfl
  have hb : Hid (Below w.heap.size w V) := by show Below _ _ _; rw [← hV.out]; exact (Below.refl _ _).alloc (Nat.le_refl _) _
  go_enter Try.func161, Try.ntmps161
  go_upto_region 1 with fail
  rw [hV.out, hB.out]
  go_wp2_with fail
  refine (KC.out _).mono ?_
  rintro e w1 ⟨rfl, rfl⟩
  go_wp2_with fail
  go_ret
  exact ⟨rfl, hb.out⟩

set_option maxHeartbeats 2000000 in
theorem bsearch (key : List UInt8) (v : Value) (l : List BoundP) (F : Nat → Prop) (w : World) (h : Bnds F w v l) (hk : okB l = true) (hn : l.length ≤ 4611686018427387903) :
    Calls Try.prog 160 #[v, str key, .func (.func 161) #[] #[]] w fun e w' => ∃ k : Nat, Dg.Place l key k ∧ e = .returned (.tuple #[.int .i64 k, .bool (decide (l[k]?.map BoundP.frm = some key))]) ∧ Below w.heap.size w w' := by
  obtain ⟨ao, cap, rfl, hcap, hmax⟩ := h.slice
  have HF : Hid (∀ w', Below w.heap.size w w' → Bnds F w' (.slice ao l.length cap) l) := fun w' hb => h.frame (Plain.good _) (Agree.below hb)
  have HK := Lib.hid hk
  clear h hk
  go_enter Try.func160, Try.ntmps160
  go_wp2
  go_loopw [9, 10] (fun s9 s10 wr => ∃ lo hi : Nat, s9 = .int .i64 lo ∧ s10 = .int .i64 hi ∧ lo ≤ hi ∧ hi ≤ l.length ∧ Hid (Below w.heap.size w wr) ∧
    Hid ((∀ i (hi : i < l.length), i < lo → lt l[i].frm key = true) ∧ (∀ i (hj : i < l.length), hi ≤ i → lt l[i].frm key = false))) (fun s9 s10 _ => (intOf s10).toNat - (intOf s9).toNat)
  case atStart => exact ⟨0, l.length, rfl, rfl, Nat.zero_le _, Nat.le_refl _, Below.refl _ _, ⟨fun i _ h => by omega, fun i h1 h2 => by omega⟩⟩
  case round =>
    obtain ⟨lo, hi, rfl, rfl, hlh, hin, hb, I⟩ := hrel
    by_cases hlt : lo < hi
    · have hmid : (lo + hi) / 2 < l.length := by omega
      obtain ⟨b, off, rfl, c0, c1⟩ := Sl.two (HF.out _ hb.out) hmid
      obtain ⟨y, hy⟩ := hide l[(lo + hi) / 2]
      rw [hy.out] at c0 c1
      have KC := Lib.hid (find_cmp y key wr)
      have hneg := cmpP_neg y.frm key
      obtain ⟨r, hr⟩ := hide (cmpP y.frm key)
      rw [hr.out] at KC hneg
      cases hyx : lt y.frm key
      · rw [hyx] at hneg
        have Hyx := Lib.hid hyx
        clear hyx
        go_wp2_with (go_at_call 161; refine KC.out.mono ?_; rintro e w' ⟨rfl, hb1⟩)
        have Hb1 := Lib.hid (hb.out.trans (hb1.mono hb.out.size))
        clear hb1
        go_wp2_with fail
        go_roundw
        case rel =>
          refine ⟨lo, (lo + hi) / 2, rfl, by go_num, by omega, by omega, Hb1, I.out.1, fun i hi2 h2 => ?_⟩
          have h3 : lt l[(lo + hi) / 2].frm key = false := by rw [hy.out]; exact Hyx.out
          rcases Nat.lt_or_ge ((lo + hi) / 2) i with h4 | h4
          · cases h5 : lt l[i].frm key
            · rfl
            · rw [lt_trans (okB_lt HK.out i h4 hi2) h5] at h3
              cases h3
          · have : i = (lo + hi) / 2 := by omega
            subst this
            exact h3
        case measure => simp [intOf]; omega
      · rw [hyx] at hneg
        have Hyx := Lib.hid hyx
        clear hyx
        go_wp2_with (go_at_call 161; refine KC.out.mono ?_; rintro e w' ⟨rfl, hb1⟩)
        have Hb1 := Lib.hid (hb.out.trans (hb1.mono hb.out.size))
        clear hb1
        go_wp2_with fail
        go_roundw
        case rel =>
          refine ⟨(lo + hi) / 2 + 1, hi, by go_num, rfl, by omega, hin, Hb1, fun i hi2 h2 => ?_, I.out.2⟩
          have h3 : lt l[(lo + hi) / 2].frm key = true := by rw [hy.out]; exact Hyx.out
          rcases Nat.lt_or_ge i ((lo + hi) / 2) with h4 | h4
          · exact lt_trans (okB_lt HK.out _ h4 hmid) h3
          · have : i = (lo + hi) / 2 := by omega
            subst this
            exact h3
        case measure => simp [intOf]; omega
    · obtain rfl : lo = hi := by omega
      have HP : Hid (Dg.Place l key lo) := ⟨hin, I.out.1, I.out.2⟩
      by_cases hlt2 : lo < l.length
      · obtain ⟨b, off, rfl, c0, c1⟩ := Sl.two (HF.out _ hb.out) hlt2
        obtain ⟨y, hy⟩ := hide l[lo]
        rw [hy.out] at c0 c1
        have KC := Lib.hid (find_cmp y key wr)
        have hz := cmpP_zero y.frm key
        have he : decide (l[lo]?.map BoundP.frm = some key) = decide (y.frm = key) := by
          rw [List.getElem?_eq_getElem hlt2, hy.out]
          simp
        have He := Lib.hid he
        clear he
        obtain ⟨q, hq⟩ := hide (decide (y.frm = key))
        rw [hq.out] at hz He
        obtain ⟨r, hr⟩ := hide (cmpP y.frm key)
        rw [hr.out] at KC hz
        go_wp2_with (go_at_call 161; refine KC.out.mono ?_; rintro e w' ⟨rfl, hb1⟩)
        have Hb1 := Lib.hid (hb.out.trans (hb1.mono hb.out.size))
        clear hb1
        go_wp2_with fail
        go_ret2
        exact ⟨lo, HP.out, by rw [He.out]; rfl, Hb1.out⟩
      · have he : decide (l[lo]?.map BoundP.frm = some key) = false := by
          rw [List.getElem?_eq_none (by omega)]
          rfl
        have He := Lib.hid he
        clear he
        go_wp2_with fail
        go_ret2
        exact ⟨lo, HP.out, by rw [He.out]; rfl, hb.out⟩

set_option maxHeartbeats 1000000 in
/-- the place of the last bound that is not above a key -/
theorem find_law (key : List UInt8) (v : Value) (l : List BoundP) (F : Nat → Prop) (w : World) (h : Bnds F w v l) (hk : okB l = true) (hn : l.length ≤ 4611686018427387903) :
    Calls Try.prog 110 #[v, str key] w fun e w' => ∃ k : Nat, (∃ hk : k < l.length, hostOf key l = l[k].host) ∧ e = .returned (.int .i64 k) ∧ Below w.heap.size w w' := by
  have KB := Lib.hid (bsearch key v l F w h hk hn)
  have HK := Lib.hid hk
  obtain ⟨ao, cap, rfl, hcap, hmax⟩ := h.slice
  clear h hk
  go_enter Try.func110, Try.ntmps110
  go_wp2_with fail
  refine KB.out.mono ?_
  rintro e w1 ⟨k, hp, rfl, hb⟩
  have hle := hp.le
  rcases hp.at HK.out with ⟨h1, h2, h3⟩ | ⟨h1, h2, h3, h4⟩
  · have e1 : decide (l[k]?.map BoundP.frm = some key) = true := by rw [List.getElem?_eq_getElem h1]; simp [h2]
    rw [e1]
    have HP : Hid (∃ hk : k < l.length, hostOf key l = l[k].host) := ⟨h1, h3⟩
    have Hb := Lib.hid hb
    clear h1 h2 h3 hb hp
    go_wp2_with fail
    go_ret
    exact ⟨k, HP.out, rfl, Hb.out⟩
  · have e1 : decide (l[k]?.map BoundP.frm = some key) = false := by
      refine decide_eq_false (fun h5 => ?_)
      rcases Nat.lt_or_ge k l.length with h6 | h6
      · exact h1 h6 h5
      · rw [List.getElem?_eq_none h6] at h5; cases h5
    rw [e1]
    have HP : Hid (∃ hk : k - 1 < l.length, hostOf key l = l[k - 1].host) := ⟨h2, h4⟩
    have Hb := Lib.hid hb
    clear h1 h2 h4 hb hp
    go_wp2_with fail
    go_ret
    exact ⟨k - 1, HP.out, by go_num, Hb.out⟩

set_option maxHeartbeats 1000000 in
theorem at_law (key : List UInt8) (v : Value) (l : List BoundP) (F : Nat → Prop) (w : World) (h : Bnds F w v l) (hk : okB l = true) (hn : l.length ≤ 4611686018427387903) :
    Calls Try.prog 25 #[v, str key] w fun e w' => e = .returned (.int .i64 (hostOf key l)) ∧ Below w.heap.size w w' := by
  have KB := Lib.hid (find_law key v l F w h hk hn)
  obtain ⟨x, hx⟩ := hide (hostOf key l)
  rw [hx.out] at KB ⊢
  obtain ⟨ao, cap, rfl, hcap, hmax⟩ := h.slice
  have HF : Hid (∀ w', Below w.heap.size w w' → Bnds F w' (.slice ao l.length cap) l) := fun w' hb => h.frame (Plain.good _) (Agree.below hb)
  clear h hk
  go_enter Try.func25, Try.ntmps25
  go_wp2_with fail
  refine KB.out.mono ?_
  rintro e w1 ⟨k, ⟨h1, h2⟩, rfl, hb⟩
  obtain ⟨b, off, rfl, c0, c1⟩ := Sl.two (HF.out _ hb) h1
  rw [← h2] at c1
  have Hb := Lib.hid hb
  clear hb h2
  go_wp2_with fail
  go_ret
  exact ⟨rfl, Hb.out⟩

set_option maxHeartbeats 1000000 in
theorem hostOf_law (key : List UInt8) (v : Value) (l : List BoundP) (F : Nat → Prop) (w : World) (h : Bnds F w v l) :
    Calls Try.prog 26 #[v, str key] w fun e w' => e = .returned (.int .i64 (hostOf key l)) ∧ w = w' := by
  obtain ⟨ao, cap, rfl, hcap, hmax⟩ := h.slice
  have HF := Lib.hid h
  have H0 : Hid (hostOf key l = hostOf key (l.take l.length)) := by show _ = _; rw [List.take_length]
  obtain ⟨T, hT⟩ := hide (fun i => hostOf key (l.take i))
  have Hs : Hid (∀ i (hi : i < l.length), T (i + 1) = if le l[i].frm key then l[i].host else T i) := by rw [← hT.out]; exact fun i hi => hostOf_take key l hi
  have H1 : Hid (hostOf key l = T l.length) := by rw [← hT.out]; exact H0.out
  clear h
  go_enter Try.func26, Try.ntmps26
  go_wp2_with fail
  go_loopw [5, 6] (fun h i wr => ∃ k : Nat, i = .int .i64 k ∧ h = .int .i64 (T k) ∧ k ≤ l.length ∧ w = wr) (fun _ i _ => l.length - (intOf i).toNat)
  case atStart => exact ⟨0, rfl, by rw [← hT.out]; rfl, Nat.zero_le _, rfl⟩
  case round =>
    obtain ⟨k, rfl, rfl, hkl, rfl⟩ := hrel
    by_cases hlt : k < l.length
    · obtain ⟨b, off, rfl, c0, c1⟩ := Sl.two HF.out hlt
      have hs := Hs.out k hlt
      obtain ⟨y, hy⟩ := hide l[k]
      rw [hy.out] at c0 c1 hs
      cases hl : le y.frm key
      · rw [hl] at hs
        have hl' : (Op.bytesLess y.frm key || y.frm == key) = false := hl
        have HS : Hid (T (k + 1) = T k) := hs
        clear hl hs
        go_wp2_with fail
        go_roundw
        case rel => exact ⟨k + 1, by go_num, by rw [HS.out], by omega, by first | trivial | rfl⟩
        case measure => simp [intOf]; omega
      · rw [hl] at hs
        have hl' : (Op.bytesLess y.frm key || y.frm == key) = true := hl
        have HS : Hid (T (k + 1) = y.host) := hs
        clear hl hs
        go_wp2_with fail
        go_roundw
        case rel => exact ⟨k + 1, by go_num, by rw [HS.out], by omega, by first | trivial | rfl⟩
        case measure => simp [intOf]; omega
    · obtain rfl : k = l.length := by omega
      go_wp2_with fail
      go_ret
      exact ⟨by rw [H1.out]; rfl, rfl⟩
end Go.Proofs.Ytlknkhmhdmpdkaa
