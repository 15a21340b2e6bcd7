/-
  Lists of pairs: may such be? both ways.
-/
import Derived.Test.YtnmlkoidmacinaaDoorRq
import Derived.Test.YtnmlkoidmacinaaDoorCx
import Derived.Deep.Cut
import Derived.Deep.DeepCutAuto
import Derived.Deep.QuietTactic
import Derived.BigQuiet
namespace Go.Proofs.YtnmlkoidmacinaaDoor
open Go.RowKit Wm Mm
set_option linter.unusedVariables false

theorem in_eq (n low high : Int) (w : World) : Calls Tryd.prog 50 #[.int .i64 n, .int .i64 low, .int .i64 high] w fun e w' => e = .returned (.bool (inB n low high)) ∧ w' = w := (in_any n low high w).mono fun _ _ h => ⟨h.1, h.2.symm⟩
/-- v is a slice of records of so many cells -/
def RecsP {α : Type} (size : Nat) (R : World → List Value → α → Prop) (w : World) (v : Value) (l : List α) : Prop :=
  ∃ ao cap, v = .slice ao l.length cap ∧ (l ≠ [] → ∃ b off, ao = some ⟨b, off, none⟩ ∧ ∀ j x, l[j]? = some x → ∃ vs : List Value, vs.length = size ∧ R w vs x ∧ ∀ i u, vs[i]? = some u → w.cell? ⟨b, off + j * size + i, none⟩ = some u) ∧ l.length ≤ 9223372036854775807
theorem RecsP.mono {α : Type} {size : Nat} {R : World → List Value → α → Prop} {w w' : World} {v : Value} {l : List α} (hR : ∀ vs x, R w vs x → R w' vs x) (h : RecsP size R w v l) (hb : Below w.heap.size w w') : RecsP size R w' v l := by
  obtain ⟨ao, cap, rfl, hc, hm⟩ := h
  refine ⟨ao, cap, rfl, fun hne => ?_, hm⟩
  obtain ⟨b, off, rfl, hj⟩ := hc hne
  refine ⟨b, off, rfl, fun j x hx => ?_⟩
  obtain ⟨vs, h1, h2, h3⟩ := hj j x hx
  refine ⟨vs, h1, hR _ _ h2, fun i u hu => ?_⟩
  have h4 := h3 i u hu
  rw [hb.cell (p := ⟨b, off + j * size + i, none⟩) (World.block_lt_of_cell? _ _ h4)]
  exact h4
theorem RecsP.slice {α : Type} {size : Nat} {R : World → List Value → α → Prop} {w : World} {v : Value} {l : List α} (h : RecsP size R w v l) : ∃ ao cap, v = .slice ao l.length cap ∧ l.length ≤ 9223372036854775807 := by
  obtain ⟨ao, cap, rfl, _, hm⟩ := h
  exact ⟨ao, cap, rfl, hm⟩

structure PairP where
  key : List UInt8
  val : List UInt8
  ver : Int
abbrev rowPair (p : PairP) : List Value := [str p.key, str p.val, .int .i64 p.ver]
abbrev Pairs (w : World) (v : Value) (l : List PairP) : Prop := RecsP 3 (fun _ vs p => vs = rowPair p) w v l
theorem Pairs.mono {w w' : World} {v : Value} {l : List PairP} (h : Pairs w v l) (hb : Below w.heap.size w w') : Pairs w' v l := RecsP.mono (fun _ _ h => h) h hb
theorem pairs_ne {α : Type} {l : List α} {k : Nat} (h : k < l.length) : l ≠ [] := by
  cases l with
  | nil => simp at h
  | cons _ _ => simp
theorem Pairs.at {w : World} {a : Option Addr} {n c : Nat} {l : List PairP} (h : Pairs w (.slice a n c) l) {k : Nat} (hk : k < l.length) : ∃ b off, a = some ⟨b, off, none⟩ ∧ w.cell? ⟨b, off + k * 3, none⟩ = some (str l[k].key) ∧ w.cell? ⟨b, off + k * 3 + 1, none⟩ = some (str l[k].val) ∧ w.cell? ⟨b, off + k * 3 + 2, none⟩ = some (.int .i64 l[k].ver) := by
  obtain ⟨ao, cap, he, h1, h2⟩ := h
  obtain ⟨b, off, rfl, h3⟩ := h1 (pairs_ne hk)
  injection he with e1 e2 e3
  obtain ⟨vs, _, rfl, h4⟩ := h3 k l[k] (by simp [hk])
  exact ⟨b, off, e1, h4 0 _ rfl, h4 1 _ rfl, h4 2 _ rfl⟩

/-- is a text not ahead of another? -/
def strGe (a b : List UInt8) : Bool := !(Op.bytesLess a b)
def keyPrev (l : List PairP) : Nat → List UInt8 → Bool
  | 0, _ => true
  | j + 1, x => match l[j]? with | none => true | some y => !(strGe y.key x)
def okPair (l : List PairP) (i : Nat) (p : PairP) : Bool := !(p.key == []) && (decide (p.key.length ≤ 16) && (decide (p.val.length ≤ 64) && (inB p.ver 1 1099511627775 && keyPrev l i p.key)))
def pairsB (l : List PairP) : Bool := (List.range l.length).all (fun i => match l[i]? with | none => true | some p => okPair l i p) && decide (l.length ≤ 32)

theorem pairsB_no {l : List PairP} {k : Nat} (hk : k < l.length) (h : okPair l k l[k] = false) : pairsB l = false := by
  have : (List.range l.length).all (fun i => match l[i]? with | none => true | some p => okPair l i p) = false := by
    rw [List.all_eq_false]
    exact ⟨k, List.mem_range.2 hk, by rw [List.getElem?_eq_getElem hk]; simp [h]⟩
  rw [pairsB, this]; rfl
theorem pairsB_all {l : List PairP} (h : ∀ i p, i < l.length → l[i]? = some p → okPair l i p = true) : (List.range l.length).all (fun i => match l[i]? with | none => true | some p => okPair l i p) = true := by
  rw [List.all_eq_true]
  intro i hi
  have hl := List.mem_range.1 hi
  rw [List.getElem?_eq_getElem hl]
  exact h i _ hl (by simp [hl])

set_option maxHeartbeats 2000000 in
set_option maxRecDepth 100000 in
theorem wire_isPairs (v : Value) (l : List PairP) (w : World) (hv : Pairs w v l) :
    Calls Tryd.prog 51 #[v] w fun e w' => e = .returned (.bool (pairsB l)) ∧ Below w.heap.size w w' := by
  obtain ⟨ao, cap, rfl, hm⟩ := hv.slice
  have HV := Lib.hid hv
  obtain ⟨post, HP⟩ := hide (fun (e : Ending) (w' : World) => e = .returned (.bool (pairsB l)) ∧ Below w.heap.size w w')
  rw [HP.out]
  clear hv
  go_enter Tryd.func51, Tryd.ntmps51
  go_wp2
  go_loopw [7] (fun i wr => ∃ k : Nat, i = .int .i64 k ∧ k ≤ l.length ∧ Hid (Below w.heap.size w wr) ∧ Hid (∀ i p, i < k → l[i]? = some p → okPair l i p = true)) (fun i _ => l.length - (intOf i).toNat)
  case atStart => exact ⟨0, rfl, Nat.zero_le _, Below.refl _ _, fun i p h => by omega⟩
  case round =>
    obtain ⟨k, rfl, hk, hb, hx⟩ := hrel
    by_cases hlt : k < l.length
    · obtain ⟨b, off, rfl, c0, c1, c2⟩ := (HV.out.mono hb.out).at hlt
      have hmk : ∀ m, k = m + 1 → ∃ hm : m < l.length, wr.cell? ⟨b, off + m * 3, none⟩ = some (str l[m].key) := by
        intro m e
        have hml : m < l.length := by omega
        obtain ⟨b', off', e1, c', _⟩ := (HV.out.mono hb.out).at hml
        injection e1 with e1
        injection e1 with e1 e2
        exact ⟨hml, by rw [e1, e2]; exact c'⟩
      have Hmk := Lib.hid hmk
      clear hmk
      obtain ⟨p, hX⟩ := hide l[k]
      rw [hX.out] at c0 c1 c2
      obtain ⟨key, val, ver⟩ := p
      simp only [] at c0 c1 c2
      obtain ⟨W1, hW1⟩ := hide (wr.alloc (.cells #[str key, str val, .int .i64 ver] 25))
      have hq : W1.heap[wr.heap.size]? = some (.cells #[str key, str val, .int .i64 ver] 25 (0, 0)) := by rw [← hW1.out]; exact hp_at _ _ rfl
      have hbW : Below w.heap.size w W1 := by rw [← hW1.out]; exact hb.out.alloc hb.out.size _
      go_upto_region 4 with fail
      rw [hW1.out]
      obtain ⟨Q, hQ⟩ := hide wr.heap.size
      rw [hQ.out] at hq ⊢
      have d0 := cell_n hq 0 (v := str key) rfl
      have d1 := cell_n hq 1 (v := str val) rfl
      have d2 := cell_n hq 2 (v := .int .i64 ver) rfl
      have K := Lib.hid (fun w' => in_eq ver 1 1099511627775 w')
      obtain ⟨r4, hr4⟩ := hide (inB ver 1 1099511627775)
      rw [hr4.out] at K
      have HbW := Lib.hid hbW
      clear c0 c1 c2 hbW hq
      have hok : okPair l k ⟨key, val, ver⟩ = (!(key == []) && (decide (key.length ≤ 16) && (decide (val.length ≤ 64) && (r4 && keyPrev l k key)))) := by rw [← hr4.out]; rfl
      have Hok := Lib.hid hok
      clear hok
      go_cut [47] (fun r wx => r = .bool (!(okPair l k ⟨key, val, ver⟩)) ∧ Hid (Below w.heap.size w wx))
      case first =>
        cases t1 : (key == []) with
        | true =>
          go_quiet (first | (go_at_call 50; refine Calls.quiet_of_same (K.out _)))
          go_wp2
          go_meet
          exact ⟨by rw [Hok.out, t1]; rfl, below_drewN HbW.out _⟩
        | false =>
        by_cases h16 : 16 < key.length
        · have t2 : decide ((16 : Int) < (key.length : Int)) = true := decide_eq_true (by omega)
          have H16 : Hid (decide (key.length ≤ 16) = false) := decide_eq_false (by omega)
          clear h16
          go_quiet (first | (go_at_call 50; refine Calls.quiet_of_same (K.out _)))
          go_wp2
          go_meet
          exact ⟨by rw [Hok.out, t1, H16.out]; rfl, below_drewN HbW.out _⟩
        have t2 : decide ((16 : Int) < (key.length : Int)) = false := decide_eq_false (by omega)
        have H16 : Hid (decide (key.length ≤ 16) = true) := decide_eq_true (by omega)
        clear h16
        by_cases h64 : 64 < val.length
        · have t3 : decide ((64 : Int) < (val.length : Int)) = true := decide_eq_true (by omega)
          have H64 : Hid (decide (val.length ≤ 64) = false) := decide_eq_false (by omega)
          clear h64
          go_quiet (first | (go_at_call 50; refine Calls.quiet_of_same (K.out _)))
          go_wp2
          go_meet
          exact ⟨by rw [Hok.out, t1, H16.out, H64.out]; rfl, below_drewN HbW.out _⟩
        have t3 : decide ((64 : Int) < (val.length : Int)) = false := decide_eq_false (by omega)
        have H64 : Hid (decide (val.length ≤ 64) = true) := decide_eq_true (by omega)
        clear h64
        cases r4 with
        | false =>
          go_quiet (first | (go_at_call 50; refine Calls.quiet_of_same (K.out _)))
          go_wp2
          go_meet
          exact ⟨by rw [Hok.out, t1, H16.out, H64.out]; rfl, below_drewN HbW.out _⟩
        | true =>
        cases k with
        | zero =>
          rw [show (((0 : Nat) : Int)) = 0 from rfl]
          go_quiet (first | (go_at_call 50; refine Calls.quiet_of_same (K.out _)))
          go_wp2
          go_meet
          exact ⟨by rw [Hok.out, t1, H16.out, H64.out]; rfl, below_drewN HbW.out _⟩
        | succ m =>
        obtain ⟨hml, cm⟩ := Hmk.out m rfl
        have cm1 : W1.cell? ⟨b, off + m * 3, none⟩ = some (str l[m].key) := by rw [← hW1.out, World.cell?_alloc_lt _ _ _ (World.block_lt_of_cell? _ _ cm)]; exact cm
        have hkp : keyPrev l (m + 1) key = !(strGe l[m].key key) := by rw [keyPrev, List.getElem?_eq_getElem hml]
        have Hkp := Lib.hid hkp
        obtain ⟨pk, hpk⟩ := hide l[m].key
        rw [hpk.out] at cm1 Hkp
        have hmi : (m : Int) < (l.length : Int) := by omega
        clear cm hkp
        cases t5 : strGe pk key with
        | true =>
          unfold strGe at t5
          go_quiet (first | (go_at_call 50; refine Calls.quiet_of_same (K.out _)))
          go_wp2
          go_meet
          exact ⟨by rw [Hok.out, t1, H16.out, H64.out, Hkp.out, strGe, t5]; rfl, below_drewN HbW.out _⟩
        | false =>
          unfold strGe at t5
          go_quiet (first | (go_at_call 50; refine Calls.quiet_of_same (K.out _)))
          go_wp2
          go_meet
          exact ⟨by rw [Hok.out, t1, H16.out, H64.out, Hkp.out, strGe, t5]; rfl, below_drewN HbW.out _⟩
      case rest =>
        obtain ⟨rfl, hbx⟩ := hcut
        clear d0 d1 d2
        cases hokk : okPair l k ⟨key, val, ver⟩ with
        | true =>
          have Hy : Hid (∀ i p, i < k + 1 → l[i]? = some p → okPair l i p = true) := by
            show ∀ i p, _ → _ → _
            intro i p hi hip
            rcases Nat.lt_or_eq_of_le (Nat.le_of_lt_succ hi) with h1 | rfl
            · exact hx.out i p h1 hip
            · rw [List.getElem?_eq_getElem hlt, hX.out] at hip; cases hip; exact hokk
          clear hokk
          go_wp2_with fail
          go_roundw
          case rel => exact ⟨k + 1, by go_num, hlt, hbx, Hy.out⟩
          case measure => simp [intOf]; omega
        | false =>
          have Hn : Hid (post (.returned (.bool false)) wc) := by
            show post _ _
            rw [← HP.out]; exact ⟨by rw [pairsB_no hlt (by rw [hX.out]; exact hokk)], hbx.out⟩
          clear hokk
          go_wp2_with fail
          exact Hn.out
    · have hkn : k = l.length := by omega
      have hall : (List.range l.length).all (fun i => match l[i]? with | none => true | some p => okPair l i p) = true := pairsB_all (fun i p hi hip => hx.out i p (by omega) hip)
      have Hp : Hid (post (.returned (.bool (decide (l.length ≤ 32)))) wr) := by
        show post _ _
        rw [← HP.out]; exact ⟨by rw [pairsB, hall]; rfl, hb.out⟩
      have t9 : decide ((l.length : Int) ≤ 32) = decide (l.length ≤ 32) := by simp only [decide_eq_decide]; omega
      cases hd : decide (l.length ≤ 32)
      all_goals
        rw [hd] at t9 Hp
        clear hkn hall hd
        go_wp2_with fail
        exact Hp.out
set_option maxHeartbeats 2000000 in
set_option maxRecDepth 100000 in
theorem ref_isPairs (v : Value) (l : List PairP) (w : World) (hv : Pairs w v l) :
    Calls Tryd.prog 7 #[v] w fun e w' => e = .returned (.bool (pairsB l)) ∧ Below w.heap.size w w' := by
  obtain ⟨ao, cap, rfl, hm⟩ := hv.slice
  have HV := Lib.hid hv
  obtain ⟨post, HP⟩ := hide (fun (e : Ending) (w' : World) => e = .returned (.bool (pairsB l)) ∧ Below w.heap.size w w')
  rw [HP.out]
  clear hv
  go_enter Tryd.func7, Tryd.ntmps7
  go_wp2
  go_loopw [3] (fun i wr => ∃ k : Nat, i = .int .i64 k ∧ k ≤ l.length ∧ Hid (Below w.heap.size w wr) ∧ Hid (∀ i p, i < k → l[i]? = some p → okPair l i p = true)) (fun i _ => l.length - (intOf i).toNat)
  case atStart => exact ⟨0, rfl, Nat.zero_le _, Below.refl _ _, fun i p h => by omega⟩
  case round =>
    obtain ⟨k, rfl, hk, hb, hx⟩ := hrel
    by_cases hlt : k < l.length
    · obtain ⟨b, off, rfl, c0, c1, c2⟩ := (HV.out.mono hb.out).at hlt
      have hmk : ∀ m, k = m + 1 → ∃ hm : m < l.length, wr.cell? ⟨b, off + m * 3, none⟩ = some (str l[m].key) := by
        intro m e
        have hml : m < l.length := by omega
        obtain ⟨b', off', e1, c', _⟩ := (HV.out.mono hb.out).at hml
        injection e1 with e1
        injection e1 with e1 e2
        exact ⟨hml, by rw [e1, e2]; exact c'⟩
      have Hmk := Lib.hid hmk
      clear hmk
      obtain ⟨p, hX⟩ := hide l[k]
      rw [hX.out] at c0 c1 c2
      obtain ⟨key, val, ver⟩ := p
      simp only [] at c0 c1 c2
      obtain ⟨W1, hW1⟩ := hide (wr.alloc (.cells #[str key, str val, .int .i64 ver] 25))
      have hq : W1.heap[wr.heap.size]? = some (.cells #[str key, str val, .int .i64 ver] 25 (0, 0)) := by rw [← hW1.out]; exact hp_at _ _ rfl
      have hbW : Below w.heap.size w W1 := by rw [← hW1.out]; exact hb.out.alloc hb.out.size _
      go_upto_region 5 with fail
      rw [hW1.out]
      obtain ⟨Q, hQ⟩ := hide wr.heap.size
      rw [hQ.out] at hq ⊢
      have d0 := cell_n hq 0 (v := str key) rfl
      have d1 := cell_n hq 1 (v := str val) rfl
      have d2 := cell_n hq 2 (v := .int .i64 ver) rfl
      obtain ⟨r4, hr4⟩ := hide (inB ver 1 1099511627775)
      have HbW := Lib.hid hbW
      clear c0 c1 c2 hbW hq
      have hok : okPair l k ⟨key, val, ver⟩ = (!(key == []) && (decide (key.length ≤ 16) && (decide (val.length ≤ 64) && (r4 && keyPrev l k key)))) := by rw [← hr4.out]; rfl
      have Hok := Lib.hid hok
      clear hok
      go_cut [54] (fun r wx => r = .bool (!(okPair l k ⟨key, val, ver⟩)) ∧ Hid (Below w.heap.size w wx))
      case first =>
        cases t1 : (key == []) with
        | true =>
          go_quiet (fail)
          go_wp2
          go_meet
          exact ⟨by rw [Hok.out, t1]; rfl, below_drewN HbW.out _⟩
        | false =>
        by_cases h16 : 16 < key.length
        · have t2 : decide ((16 : Int) < (key.length : Int)) = true := decide_eq_true (by omega)
          have H16 : Hid (decide (key.length ≤ 16) = false) := decide_eq_false (by omega)
          clear h16
          go_quiet (fail)
          go_wp2
          go_meet
          exact ⟨by rw [Hok.out, t1, H16.out]; rfl, below_drewN HbW.out _⟩
        have t2 : decide ((16 : Int) < (key.length : Int)) = false := decide_eq_false (by omega)
        have H16 : Hid (decide (key.length ≤ 16) = true) := decide_eq_true (by omega)
        clear h16
        by_cases h64 : 64 < val.length
        · have t3 : decide ((64 : Int) < (val.length : Int)) = true := decide_eq_true (by omega)
          have H64 : Hid (decide (val.length ≤ 64) = false) := decide_eq_false (by omega)
          clear h64
          go_quiet (fail)
          go_wp2
          go_meet
          exact ⟨by rw [Hok.out, t1, H16.out, H64.out]; rfl, below_drewN HbW.out _⟩
        have t3 : decide ((64 : Int) < (val.length : Int)) = false := decide_eq_false (by omega)
        have H64 : Hid (decide (val.length ≤ 64) = true) := decide_eq_true (by omega)
        clear h64
        by_cases hv1 : ver < 1
        · have t7 : decide (ver < 1) = true := decide_eq_true hv1
          obtain rfl : false = r4 := by rw [← hr4.out, inB, decide_eq_false (by omega : ¬ 1 ≤ ver)]; rfl
          clear hv1
          go_quiet (fail)
          go_wp2
          go_meet
          exact ⟨by rw [Hok.out, t1, H16.out, H64.out]; rfl, below_drewN HbW.out _⟩
        have t7 : decide (ver < 1) = false := decide_eq_false hv1
        by_cases hv2 : 1099511627775 < ver
        · have t8 : decide (1099511627775 < ver) = true := decide_eq_true hv2
          obtain rfl : false = r4 := by rw [← hr4.out, inB, decide_eq_false (by omega : ¬ ver ≤ 1099511627775), Bool.and_comm]; rfl
          clear hv2 hv1
          go_quiet (fail)
          go_wp2
          go_meet
          exact ⟨by rw [Hok.out, t1, H16.out, H64.out]; rfl, below_drewN HbW.out _⟩
        have t8 : decide (1099511627775 < ver) = false := decide_eq_false hv2
        obtain rfl : true = r4 := by rw [← hr4.out, inB, decide_eq_true (by omega : 1 ≤ ver), decide_eq_true (by omega : ver ≤ 1099511627775)]; rfl
        clear hv1 hv2
        cases k with
        | zero =>
          rw [show (((0 : Nat) : Int)) = 0 from rfl]
          go_quiet (fail)
          go_wp2
          go_meet
          exact ⟨by rw [Hok.out, t1, H16.out, H64.out]; rfl, below_drewN HbW.out _⟩
        | succ m =>
        obtain ⟨hml, cm⟩ := Hmk.out m rfl
        have cm1 : W1.cell? ⟨b, off + m * 3, none⟩ = some (str l[m].key) := by rw [← hW1.out, World.cell?_alloc_lt _ _ _ (World.block_lt_of_cell? _ _ cm)]; exact cm
        have hkp : keyPrev l (m + 1) key = !(strGe l[m].key key) := by rw [keyPrev, List.getElem?_eq_getElem hml]
        have Hkp := Lib.hid hkp
        obtain ⟨pk, hpk⟩ := hide l[m].key
        rw [hpk.out] at cm1 Hkp
        have hmi : (m : Int) < (l.length : Int) := by omega
        clear cm hkp
        cases t5 : strGe pk key with
        | true =>
          unfold strGe at t5
          go_quiet (fail)
          go_wp2
          go_meet
          exact ⟨by rw [Hok.out, t1, H16.out, H64.out, Hkp.out, strGe, t5]; rfl, below_drewN HbW.out _⟩
        | false =>
          unfold strGe at t5
          go_quiet (fail)
          go_wp2
          go_meet
          exact ⟨by rw [Hok.out, t1, H16.out, H64.out, Hkp.out, strGe, t5]; rfl, below_drewN HbW.out _⟩
      case rest =>
        obtain ⟨rfl, hbx⟩ := hcut
        clear d0 d1 d2
        cases hokk : okPair l k ⟨key, val, ver⟩ with
        | true =>
          have Hy : Hid (∀ i p, i < k + 1 → l[i]? = some p → okPair l i p = true) := by
            show ∀ i p, _ → _ → _
            intro i p hi hip
            rcases Nat.lt_or_eq_of_le (Nat.le_of_lt_succ hi) with h1 | rfl
            · exact hx.out i p h1 hip
            · rw [List.getElem?_eq_getElem hlt, hX.out] at hip; cases hip; exact hokk
          clear hokk
          go_wp2_with fail
          go_roundw
          case rel => exact ⟨k + 1, by go_num, hlt, hbx, Hy.out⟩
          case measure => simp [intOf]; omega
        | false =>
          have Hn : Hid (post (.returned (.bool false)) wc) := by
            show post _ _
            rw [← HP.out]; exact ⟨by rw [pairsB_no hlt (by rw [hX.out]; exact hokk)], hbx.out⟩
          clear hokk
          go_wp2_with fail
          exact Hn.out
    · have hkn : k = l.length := by omega
      have hall : (List.range l.length).all (fun i => match l[i]? with | none => true | some p => okPair l i p) = true := pairsB_all (fun i p hi hip => hx.out i p (by omega) hip)
      have Hp : Hid (post (.returned (.bool (decide (l.length ≤ 32)))) wr) := by
        show post _ _
        rw [← HP.out]; exact ⟨by rw [pairsB, hall]; rfl, hb.out⟩
      have t9 : decide ((l.length : Int) ≤ 32) = decide (l.length ≤ 32) := by simp only [decide_eq_decide]; omega
      cases hd : decide (l.length ≤ 32)
      all_goals
        rw [hd] at t9 Hp
        clear hkn hall hd
        go_wp2_with fail
        exact Hp.out
end Go.Proofs.YtnmlkoidmacinaaDoor
