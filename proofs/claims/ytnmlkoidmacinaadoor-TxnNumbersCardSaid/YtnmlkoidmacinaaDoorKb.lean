/-
  Pairs: copies of them, and where a key's place is: walks.
-/
import Derived.Test.YtnmlkoidmacinaaDoorKa
import Derived.Test.YtnmlkoidmacinaaDoorCp
import Derived.Deep.RegionLaw
import Derived.WalkSpells
import Derived.WalkLawsBesides
namespace Go.Proofs.YtnmlkoidmacinaaDoor
open Go.RowKit Wm Mm Dg Kv
set_option linter.unusedVariables false
set_option linter.unusedSimpArgs false

abbrev Prs (F : Nat → Prop) (w : World) (v : Value) (l : List PairP) : Prop := Sl 3 (Plain rowPair) F w v l
theorem info_pairK : (Tryd.prog.info? 25).map (fun i => (i.zero, i.size, i.bytes)) = some (some (.agg #[.string ByteArray.empty, .string ByteArray.empty, .int .i64 0]), 3, 40) := by kernel_rfl
theorem zero_pair (w : World) : (zeroValue 25).run Tryd.prog w = .ok (.agg #[.string ByteArray.empty, .string ByteArray.empty, .int .i64 0]) w := by kernel_rfl
theorem rowPair_len (b : PairP) : (rowPair b).length = 3 := rfl
theorem rowPair_one (b : PairP) : ∀ u ∈ rowPair b, u.oneCell' = true := by intro u hu; simp at hu; rcases hu with rfl | rfl | rfl <;> rfl
abbrev OwnP (S : Nat) (w : World) (v : Value) (l : List PairP) : Prop := w.ownsRow S 25 3 v l.length (l.flatMap rowPair)
theorem OwnP.prs {S : Nat} {w : World} {v : Value} {l : List PairP} (h : OwnP S w v l) : Prs (fun k => S ≤ k) w v l := Sl.own rowPair rowPair_len h (fun _ _ => rfl) (fun _ _ h _ => h)
theorem Sl.pairs {F : Nat → Prop} {w : World} {v : Value} {l : List PairP} (h : Prs F w v l) : Pairs w v l := by
  obtain ⟨ao, cap, rfl, hc, hm, hx⟩ := h
  refine ⟨ao, cap, rfl, fun hne => ?_, hm⟩
  obtain ⟨b, off, h1, _, _, h2⟩ := hx hne
  exact ⟨b, off, h1, h2⟩
/-- the cells of one pair -/
theorem Sl.three {F : Nat → Prop} {w : World} {a : Option Addr} {n c : Nat} {l : List PairP} (h : Prs F w (.slice a n c) l) {k : Nat} (hk : k < l.length) :
    ∃ b off, a = some ⟨b, off, none⟩ ∧ w.cell? ⟨b, off + k * 3, none⟩ = some (str l[k].key) ∧ w.cell? ⟨b, off + k * 3 + 1, none⟩ = some (str l[k].val) ∧ w.cell? ⟨b, off + k * 3 + 2, none⟩ = some (.int .i64 l[k].ver) := by
  obtain ⟨b, off, us, e, _, _, hus, hcs⟩ := h.at hk
  have hus' : us = rowPair l[k] := hus
  subst hus'
  exact ⟨b, off, e, hcs 0 _ rfl, hcs 1 _ rfl, hcs 2 _ rfl⟩
theorem flat_set3 : ∀ (l : List PairP) (k : Nat) (y : PairP), k < l.length → (((l.flatMap rowPair).set (k * 3) (str y.key)).set (k * 3 + 1) (str y.val)).set (k * 3 + 2) (.int .i64 y.ver) = (l.set k y).flatMap rowPair
  | a :: r, 0, y, _ => rfl
  | a :: r, k + 1, y, h => by
    have ih := flat_set3 r k y (by simpa using h)
    rw [List.set_cons_succ, List.flatMap_cons, List.flatMap_cons, ← ih, show (k + 1) * 3 = k * 3 + 1 + 1 + 1 from by omega]
    rfl
theorem flat_take3 (l : List PairP) (k : Nat) : (l.flatMap rowPair).take (k * 3) = (l.take k).flatMap rowPair := by
  induction l generalizing k with
  | nil => simp
  | cons a r ih =>
    cases k with
    | zero => simp
    | succ k =>
      rw [List.take_succ_cons, List.flatMap_cons, List.flatMap_cons, ← ih k, show (k + 1) * 3 = k * 3 + 1 + 1 + 1 from by omega]
      rfl
theorem flat_drop3 (l : List PairP) (k : Nat) : (l.flatMap rowPair).drop (k * 3) = (l.drop k).flatMap rowPair := by
  induction l generalizing k with
  | nil => simp
  | cons a r ih =>
    cases k with
    | zero => simp
    | succ k =>
      rw [List.drop_succ_cons, List.flatMap_cons, ← ih k, show (k + 1) * 3 = k * 3 + 1 + 1 + 1 from by omega]
      rfl

set_option maxHeartbeats 1000000 in
theorem clone_pairs (ev : Value) (es : List PairP) (F : Nat → Prop) (w : World) (h : Prs F w ev es) (hn : es.length ≤ 3518437208800) :
    Calls Tryd.prog 36 #[ev] w fun e w' => ∃ v', e = .returned v' ∧ OwnP w.heap.size w' v' es ∧ Below w.heap.size w w' := by
  obtain ⟨post, HP⟩ := hide (fun (e : Ending) (w' : World) => ∃ v', e = .returned v' ∧ OwnP w.heap.size w' v' es ∧ Below w.heap.size w w')
  rw [HP.out]
  obtain ⟨ao, cap, rfl, hcap, hmax⟩ := h.slice
  have keq := fun (w : World) (a : Option Addr) (n c : Nat) => Lib.run_eql_slice_nil (P := Tryd.prog) w 22 25 a n c 0 0 Tryd.underlying22
  have Hn := Lib.hid hn
  clear hn hmax
  cases ao with
  | none =>
    obtain ⟨rfl, rfl⟩ := h.isNil
    clear h
    go_enter Tryd.func36, Tryd.ntmps36
    go_wp2_with fail
    rw [← HP.out]
    exact ⟨_, rfl, World.ownsRow_nil _ _ _ _, Below.refl _ _⟩
  | some a =>
    have hsrc := src_sl (P := Tryd.prog) (tx := 22) rowPair Tryd.underlying22 (by decide) rowPair_len rowPair_one (h.frame (Plain.good _) (Agree.alloc F w (.cells #[] 25)))
    have Hs := Lib.hid hsrc
    have Ho := Lib.hid (own_empty w 25 3)
    clear h hsrc
    go_enter Tryd.func36, Tryd.ntmps36
    go_wp2_with (at_builtin; refine wpList_append_src rfl _ _ 22 22 rfl w.heap.size 25 _ 3 40 Tryd.underlying22 info_pairK rfl _ _ _ rfl Ho.out _ _ _ rfl Hs.out (by have := Hn.out; unfold maxLen; omega) (by have := Hn.out; omega) (by simp) ?_)
    intro v' w2 ho hg
    go_wp2_with fail
    rw [← HP.out]
    refine ⟨_, rfl, ho, ?_⟩
    exact ((Below.refl w.heap.size w).alloc (Nat.le_refl _) (.cells #[] 25)).trans (grown_below hg (Nat.le_refl _) (by simp))

def cmpP (x y : List UInt8) : Int := if lt x y then -1 else if lt y x then 1 else 0
theorem cmpP_neg (x y : List UInt8) : decide (cmpP x y < 0) = lt x y := by
  unfold cmpP
  split
  · rename_i h; rw [h]; rfl
  · rename_i h
    have : lt x y = false := by simpa using h
    rw [this]
    split <;> rfl
theorem cmpP_zero (x y : List UInt8) : (cmpP x y == 0) = decide (x = y) := by
  unfold cmpP
  split
  · rename_i h; simp [lt_ne h]
  · split
    · rename_i h; simp [(lt_ne h).symm]
    · rename_i h k
      have := lt_tri (by simpa using h) (by simpa using k)
      simp [this]

set_option maxHeartbeats 1000000 in
theorem compare_str (x y : List UInt8) (w : World) : Calls Tryd.prog 72 #[str x, str y] w fun e w' => e = .returned (.int .i64 (cmpP x y)) ∧ w = w' := by
  have KN : ∀ (x : List UInt8) (w : World), Calls Tryd.prog 86 #[str x] w fun e w' => e = .returned (.bool false) ∧ w = w' := by
    intro x w
    go_enter Tryd.func86, Tryd.ntmps86
    go_wp2
    go_ret
    exact ⟨by simp, rfl⟩
  obtain ⟨post, HP⟩ := hide (fun (e : Ending) (w' : World) => e = .returned (.int .i64 (cmpP x y)) ∧ w = w')
  rw [HP.out]
  go_enter Tryd.func72, Tryd.ntmps72
  have hg := gt_lt x y
  cases h1 : lt x y
  · cases h2 : lt y x
    · have e : cmpP x y = 0 := by unfold cmpP; rw [h1, h2]; rfl
      rw [h2] at hg
      have h1' : Op.bytesLess x y = false := h1
      have hg' : (x == y) = true := by rw [h1] at hg; simpa using hg
      clear h1 h2 hg
      go_wp2_with (go_at_call 86; refine (KN _ _).mono ?_; rintro e w1 ⟨rfl, rfl⟩)
      rw [← HP.out]
      exact ⟨by rw [e]; rfl, rfl⟩
    · have e : cmpP x y = 1 := by unfold cmpP; rw [h1, h2]; rfl
      rw [h2] at hg
      have h1' : Op.bytesLess x y = false := h1
      have hg' : (x == y) = false := by rw [h1] at hg; simpa using hg
      clear h1 h2 hg
      go_wp2_with (go_at_call 86; refine (KN _ _).mono ?_; rintro e w1 ⟨rfl, rfl⟩)
      rw [← HP.out]
      exact ⟨by rw [e]; rfl, rfl⟩
  · have e : cmpP x y = -1 := by unfold cmpP; rw [h1]; rfl
    have h1' : Op.bytesLess x y = true := h1
    clear h1 hg
    go_wp2_with (go_at_call 86; refine (KN _ _).mono ?_; rintro e w1 ⟨rfl, rfl⟩)
    rw [← HP.out]
    exact ⟨by rw [e]; rfl, rfl⟩

set_option maxHeartbeats 1000000 in
theorem find_cmp (b : PairP) (key : List UInt8) (w : World) : Calls Tryd.prog 71 #[.agg #[str b.key, str b.val, .int .i64 b.ver], str key] w fun e w' => e = .returned (.int .i64 (cmpP b.key key)) ∧ Below w.heap.size w w' := by
  have KC := Lib.hid (fun w' => compare_str b.key key w')
  obtain ⟨r, hr⟩ := hide (cmpP b.key key)
  rw [hr.out] at KC ⊢
  obtain ⟨V, hV⟩ := hide (w.alloc (.cells #[str b.key, str b.val, .int .i64 b.ver] 25))
  obtain ⟨B, hB⟩ := hide w.heap.size
  have c0 : V.cell? ⟨B, 0, none⟩ = some (str b.key) := by rw [← hV.out, ← hB.out]; exact cell_n (hp_at _ _ rfl) 0 rfl
  have hb : Hid (Below w.heap.size w V) := by show Below _ _ _; rw [← hV.out]; exact (Below.refl _ _).alloc (Nat.le_refl _) _
  go_enter Tryd.func71, Tryd.ntmps71
  go_upto_region 1 with fail
  rw [hV.out, hB.out]
  go_wp2_with fail
  refine (KC.out _).mono ?_
  rintro e w1 ⟨rfl, rfl⟩
  go_wp2_with fail
  go_ret
  exact ⟨rfl, hb.out⟩

set_option maxHeartbeats 2000000 in
theorem bsearch (key : List UInt8) (v : Value) (l : List PairP) (F : Nat → Prop) (w : World) (h : Prs F w v l) (hk : OkPs l) (hn : l.length ≤ 4611686018427387903) :
    Calls Tryd.prog 70 #[v, str key, .func (.func 71) #[] #[]] w fun e w' => e = .returned (.tuple #[.int .i64 (place l key : Int), .bool (isK l key)]) ∧ Below w.heap.size w w' := by
  obtain ⟨ao, cap, rfl, hcap, hmax⟩ := h.slice
  have HF : Hid (∀ w', Below w.heap.size w w' → Prs F w' (.slice ao l.length cap) l) := fun w' hb => h.frame (Plain.good _) (Agree.below hb)
  have HK := Lib.hid hk
  clear h hk
  go_enter Tryd.func70, Tryd.ntmps70
  go_wp2
  go_loopw [9, 10] (fun s9 s10 wr => ∃ lo hi : Nat, s9 = .int .i64 lo ∧ s10 = .int .i64 hi ∧ lo ≤ hi ∧ hi ≤ l.length ∧ Hid (Below w.heap.size w wr) ∧
    Hid ((∀ i (hi : i < l.length), i < lo → lt l[i].key key = true) ∧ (∀ i (hj : i < l.length), hi ≤ i → lt l[i].key key = false))) (fun s9 s10 _ => (intOf s10).toNat - (intOf s9).toNat)
  case atStart => exact ⟨0, l.length, rfl, rfl, Nat.zero_le _, Nat.le_refl _, Below.refl _ _, ⟨fun i _ h => by omega, fun i h1 h2 => by omega⟩⟩
  case round =>
    obtain ⟨lo, hi, rfl, rfl, hlh, hin, hb, I⟩ := hrel
    by_cases hlt : lo < hi
    · have hmid : (lo + hi) / 2 < l.length := by omega
      obtain ⟨b, off, rfl, c0, c1, c2⟩ := Sl.three (HF.out _ hb.out) hmid
      obtain ⟨y, hy⟩ := hide l[(lo + hi) / 2]
      rw [hy.out] at c0 c1 c2
      have KC := Lib.hid (find_cmp y key wr)
      have hneg := cmpP_neg y.key key
      obtain ⟨r, hr⟩ := hide (cmpP y.key key)
      rw [hr.out] at KC hneg
      cases hyx : lt y.key key
      · rw [hyx] at hneg
        have Hyx := Lib.hid hyx
        clear hyx
        go_wp2_with (go_at_call 71; refine KC.out.mono ?_; rintro e w' ⟨rfl, hb1⟩)
        have Hb1 := Lib.hid (hb.out.trans (hb1.mono hb.out.size))
        clear hb1
        go_wp2_with fail
        go_roundw
        case rel =>
          refine ⟨lo, (lo + hi) / 2, rfl, by go_num, by omega, by omega, Hb1, I.out.1, fun i hi2 h2 => ?_⟩
          have h3 : lt l[(lo + hi) / 2].key key = false := by rw [hy.out]; exact Hyx.out
          rcases Nat.lt_or_ge ((lo + hi) / 2) i with h4 | h4
          · cases h5 : lt l[i].key key
            · rfl
            · rw [lt_trans (HK.out.lt i h4 hi2) h5] at h3
              cases h3
          · have : i = (lo + hi) / 2 := by omega
            subst this
            exact h3
        case measure => simp [intOf]; omega
      · rw [hyx] at hneg
        have Hyx := Lib.hid hyx
        clear hyx
        go_wp2_with (go_at_call 71; refine KC.out.mono ?_; rintro e w' ⟨rfl, hb1⟩)
        have Hb1 := Lib.hid (hb.out.trans (hb1.mono hb.out.size))
        clear hb1
        go_wp2_with fail
        go_roundw
        case rel =>
          refine ⟨(lo + hi) / 2 + 1, hi, by go_num, rfl, by omega, hin, Hb1, fun i hi2 h2 => ?_, I.out.2⟩
          have h3 : lt l[(lo + hi) / 2].key key = true := by rw [hy.out]; exact Hyx.out
          rcases Nat.lt_or_ge i ((lo + hi) / 2) with h4 | h4
          · exact lt_trans (HK.out.lt _ h4 hmid) h3
          · have : i = (lo + hi) / 2 := by omega
            subst this
            exact h3
        case measure => simp [intOf]; omega
    · obtain rfl : lo = hi := by omega
      have HP : Hid (place l key = lo) := place_of hin I.out.1 (fun h => I.out.2 lo h (Nat.le_refl _))
      by_cases hlt2 : lo < l.length
      · obtain ⟨b, off, rfl, c0, c1, c2⟩ := Sl.three (HF.out _ hb.out) hlt2
        obtain ⟨y, hy⟩ := hide l[lo]
        rw [hy.out] at c0 c1 c2
        have KC := Lib.hid (find_cmp y key wr)
        have hz := cmpP_zero y.key key
        have he : decide (l[lo]?.map PairP.key = some key) = decide (y.key = key) := by
          rw [List.getElem?_eq_getElem hlt2, hy.out]
          simp
        have He := Lib.hid he
        clear he
        obtain ⟨q, hq⟩ := hide (decide (y.key = key))
        rw [hq.out] at hz He
        obtain ⟨r, hr⟩ := hide (cmpP y.key key)
        rw [hr.out] at KC hz
        go_wp2_with (go_at_call 71; refine KC.out.mono ?_; rintro e w' ⟨rfl, hb1⟩)
        have Hb1 := Lib.hid (hb.out.trans (hb1.mono hb.out.size))
        clear hb1
        go_wp2_with fail
        go_ret2
        exact ⟨by unfold isK; rw [HP.out, He.out]; rfl, Hb1.out⟩
      · have he : decide (l[lo]?.map PairP.key = some key) = false := by
          rw [List.getElem?_eq_none (by omega)]
          rfl
        have He := Lib.hid he
        clear he
        go_wp2_with fail
        go_ret2
        exact ⟨by unfold isK; rw [HP.out, He.out]; rfl, hb.out⟩

set_option maxHeartbeats 1000000 in
theorem find_law (key : List UInt8) (v : Value) (l : List PairP) (F : Nat → Prop) (w : World) (h : Prs F w v l) (hk : OkPs l) :
    Calls Tryd.prog 52 #[v, str key] w fun e w' => e = .returned (.tuple #[.int .i64 (place l key : Int), .bool (isK l key)]) ∧ Below w.heap.size w w' := by
  have KB := Lib.hid (bsearch key v l F w h hk (by have := hk.n; omega))
  obtain ⟨p, hp⟩ := hide (place l key)
  obtain ⟨q, hq⟩ := hide (isK l key)
  rw [hp.out, hq.out] at KB ⊢
  obtain ⟨ao, cap, rfl, hcap, hmax⟩ := h.slice
  clear h hk
  go_enter Tryd.func52, Tryd.ntmps52
  go_wp2_with fail
  refine KB.out.mono ?_
  rintro e w1 ⟨rfl, hb⟩
  have Hb := Lib.hid hb
  clear hb
  go_wp2_with fail
  go_ret2
  exact ⟨rfl, Hb.out⟩
set_option maxHeartbeats 1000000 in
theorem valid_law (v : Value) (l : List PairP) (F : Nat → Prop) (w : World) (h : Prs F w v l) :
    Calls Tryd.prog 38 #[v] w fun e w' => e = .returned (.bool (pairsB l)) ∧ Below w.heap.size w w' := by
  have KB := Lib.hid (wire_isPairs v l w (Sl.pairs h))
  obtain ⟨q, hq⟩ := hide (pairsB l)
  rw [hq.out] at KB ⊢
  obtain ⟨ao, cap, rfl, hcap, hmax⟩ := h.slice
  clear h
  go_enter Tryd.func38, Tryd.ntmps38
  go_wp2_with fail
  refine KB.out.mono ?_
  rintro e w1 ⟨rfl, hb⟩
  have Hb := Lib.hid hb
  clear hb
  go_wp2_with fail
  go_ret
  exact ⟨rfl, Hb.out⟩
end Go.Proofs.YtnmlkoidmacinaaDoor
