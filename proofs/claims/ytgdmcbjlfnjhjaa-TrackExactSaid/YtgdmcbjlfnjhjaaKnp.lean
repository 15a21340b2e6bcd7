/-
  The keep laws' nodes: those of whose bits a number has; configurations out of bits. The keep laws' configurations: out of bits.
-/
import Derived.Test.YtgdmcbjlfnjhjaaCfp
import Derived.Test.YtgdmcbjlfnjhjaaPk
import Derived.Test.YtgdmcbjlfnjhjaaNf
import Derived.Test.YtgdmcbjlfnjhjaaGn
import Derived.Deep.DeepCutAuto
import Derived.Deep.RegionHeld3
import Derived.Deep.RegionLaw
import Derived.Deep.AppendLies
import Derived.Laws.Shifts
import Derived.Test.YtgdmcbjlfnjhjaaRep
namespace Go.Proofs.Ytgdmcbjlfnjhjaa
open Go.RowKit Wm Mm
set_option linter.unusedVariables false
set_option linter.unusedSimpArgs false

set_option maxHeartbeats 1000000 in
theorem keep_has (v : Value) (l : List Int) (n : Int) (w : World) (hv : Ints w v l) :
    Calls Try.prog 21 #[v, .int .i64 n] w fun e w' => e = .returned (.bool (hasB l n)) ∧ w = w' := by
  obtain ⟨ao, cap, rfl, hc, hm⟩ := hv
  have HC := Lib.hid hc
  obtain ⟨post, HP⟩ := hide (fun (e : Ending) (w' : World) => e = .returned (.bool (hasB l n)) ∧ w = w')
  rw [HP.out]
  have hn : l.length ≤ 9223372036854775807 := hm
  clear hc hm
  go_enter Try.func21, Try.ntmps21
  go_wp2
  go_loopw [5] (fun i wr => ∃ k : Nat, i = .int .i64 k ∧ k ≤ l.length ∧ wr = w ∧ Hid (∀ i x, i < k → l[i]? = some x → (x == n) = false)) (fun i _ => l.length - (intOf i).toNat)
  case atStart => exact ⟨0, rfl, Nat.zero_le _, rfl, fun i x h => by omega⟩
  case round =>
    obtain ⟨k, rfl, hk, rfl, hx⟩ := hrel
    by_cases hlt : k < l.length
    · obtain ⟨b, off, rfl, hcell⟩ := HC.out (ints_ne' hlt)
      have hck := hcell k l[k] (by simp [hlt])
      have Hyes : Hid ((l[k] == n) = true → post (.returned (.bool true)) wr) := by
        show _ → _
        intro h
        rw [← HP.out]; exact ⟨by rw [hasB_yes hlt h], rfl⟩
      have Hno : Hid ((l[k] == n) = false → ∀ i x, i < k + 1 → l[i]? = some x → (x == n) = false) := by
        show _ → ∀ i x, _ → _ → _
        intro h i x hi hix
        rcases Nat.lt_or_eq_of_le (Nat.le_of_lt_succ hi) with h1 | rfl
        · exact hx.out i x h1 hix
        · rw [List.getElem?_eq_getElem hlt] at hix; cases hix; exact h
      obtain ⟨x, hX⟩ := hide l[k]
      rw [hX.out] at hck Hno Hyes
      clear hcell
      by_cases he : x = n
      · have t1 : (x == n) = true := by simp [he]
        have Hp := Lib.hid (Hyes.out t1)
        clear he
        go_wp2_with fail
        exact Hp.out
      · have t1 : (x == n) = false := by simp [he]
        have Hp := Lib.hid (Hno.out t1)
        clear he
        go_wp2_with fail
        go_roundw
        case rel => exact ⟨k + 1, by go_num, hlt, (by first | rfl | trivial), Hp.out⟩
        case measure => simp [intOf]; omega
    · have hkn : k = l.length := by omega
      have Hp : Hid (post (.returned (.bool false)) wr) := by
        show post _ _
        rw [← HP.out]; exact ⟨by rw [hasB_no (fun i x hi hix => hx.out i x (by omega) hix)], rfl⟩
      clear hkn
      go_wp2_with fail
      exact Hp.out

def bitB (bits : Int) (n : Nat) : Bool := ((pickN (bits / 2 ^ n) 2 : Int) == 1)
def nodesK (bits : Int) (k : Nat) : List Int := ((List.range k).filter (fun i => bitB bits (i + 1))).map (fun i => ((i + 1 : Nat) : Int))
def nodesP (bits : Int) : List Int := nodesK bits 9
theorem nodesK_yes {bits : Int} {k : Nat} (h : bitB bits (k + 1) = true) : nodesK bits (k + 1) = nodesK bits k ++ [((k + 1 : Nat) : Int)] := by
  simp [nodesK, List.range_succ, h]
theorem nodesK_no {bits : Int} {k : Nat} (h : bitB bits (k + 1) = false) : nodesK bits (k + 1) = nodesK bits k := by
  simp [nodesK, List.range_succ, h]
theorem nodesK_len (bits : Int) (k : Nat) : (nodesK bits k).length ≤ k := by
  unfold nodesK
  rw [List.length_map]
  have := List.length_filter_le (fun i => bitB bits (i + 1)) (List.range k)
  simpa using this
theorem nodes_strict (bits : Int) : Strict (nodesP bits) := by
  unfold nodesP nodesK
  show List.Pairwise _ _
  rw [List.pairwise_map]
  refine List.Pairwise.imp ?_ ((List.pairwise_lt_range (n := 9)).filter _)
  intro a b h
  omega
theorem nodes_rising (bits : Int) : risingB (nodesP bits) = true := by
  rw [rising_iff]
  refine ⟨nodes_strict bits, fun x hx => ?_⟩
  unfold nodesP nodesK at hx
  obtain ⟨i, hi, rfl⟩ := List.mem_map.1 hx
  have := List.mem_range.1 (List.mem_filter.1 hi).1
  omega
set_option maxHeartbeats 1000000 in
theorem nodes_law (bits : Int) (w : World) :
    Calls Try.prog 16 #[.int .i64 bits] w fun e w' => ∃ v, e = .returned v ∧ w'.ownsRow w.heap.size 3 1 v (nodesP bits).length ((nodesP bits).map (.int .i64)) ∧ Below w.heap.size w w' := by
  obtain ⟨post, HP⟩ := hide (fun (e : Ending) (w' : World) => ∃ v, e = .returned v ∧ w'.ownsRow w.heap.size 3 1 v (nodesP bits).length ((nodesP bits).map (.int .i64)) ∧ Below w.heap.size w w')
  rw [HP.out]
  obtain ⟨B, hB⟩ := hide w.heap.size
  go_enter Try.func16, Try.ntmps16
  go_wp2_with fail
  go_loopw [3, 4] (fun v n wr => ∃ k : Nat, n = .int .i64 ((k + 1 : Nat) : Int) ∧ k ≤ 9 ∧ Hid (wr.ownsRow B 3 1 v (nodesK bits k).length ((nodesK bits k).map (.int .i64))) ∧ Hid (Below B w wr)) (fun _ n _ => 10 - (intOf n).toNat)
  case atStart => exact ⟨0, rfl, by omega, World.ownsRow_nil _ _ _ _, by rw [← hB.out]; exact Below.refl _ _⟩
  case round =>
    obtain ⟨k, rfl, hk, ho, hb⟩ := hrel
    obtain ⟨ao, cp, rfl⟩ := owns_slice ho.out
    by_cases hlt : k < 9
    · have t9 : decide (((k + 1 : Nat) : Int) ≤ 9) = true := decide_eq_true (by omega)
      have hk1 : (0 : Int) ≤ ((k + 1 : Nat) : Int) := by omega
      have hlen : (nodesK bits k).length ≤ 9 := Nat.le_trans (nodesK_len bits k) hk
      have Hlen := Lib.hid hlen
      have hBs : B ≤ wr.heap.size := by rw [← hB.out]; exact hb.out.size
      have HBs := Lib.hid hBs
      clear hlen hBs
      have HY : Hid (bitB bits (k + 1) = true → nodesK bits (k + 1) = nodesK bits k ++ [((k + 1 : Nat) : Int)]) := nodesK_yes
      have HN : Hid (bitB bits (k + 1) = false → nodesK bits (k + 1) = nodesK bits k) := nodesK_no
      have KP : Hid (∀ w1, Calls Try.prog 13 #[.int .i64 (bits / 2 ^ (k + 1)), .int .i64 2] w1 fun e w' => e = .returned (.int .i64 (pickN (bits / 2 ^ (k + 1)) 2)) ∧ w1 = w') := fun w1 => pick_any _ 2 w1 (by omega) (by omega)
      have hdef : ((pickN (bits / 2 ^ (k + 1)) 2 : Int) == 1) = bitB bits (k + 1) := rfl
      obtain ⟨p, hp⟩ := hide (pickN (bits / 2 ^ (k + 1)) 2)
      obtain ⟨r, hr⟩ := hide (bitB bits (k + 1))
      rw [hp.out] at KP hdef
      rw [hr.out] at hdef HY HN
      clear hr hp
      go_wp2_with fail
      refine (KP.out _).mono ?_
      rintro e w1 ⟨rfl, rfl⟩
      cases r with
      | true =>
        have HY2 := Lib.hid (HY.out rfl)
        clear HY HN
        go_wp2_with (at_builtin; refine wpList_push rfl _ _ 22 rfl B 3 (.int .i64 0) 1 8 Try.underlying22 info_int rfl (by decide) _ _ _ rfl ho.out _ rfl rfl (by intro u hu; simp at hu; subst hu; rfl) (by have := Hlen.out; unfold maxLen; omega) (by have := Hlen.out; omega) HBs.out ?_)
        intro v' w2 ho2 hg2
        have HB2 : Hid (Below B w w2) := by
          show Below _ _ _
          exact hb.out.trans (below_own ho.out hg2 (Nat.le_refl _) HBs.out)
        have HO2 : Hid (w2.ownsRow B 3 1 v' (nodesK bits (k + 1)).length ((nodesK bits (k + 1)).map (.int .i64))) := by
          show _
          rw [HY2.out, List.length_append, List.map_append]
          exact ho2
        obtain ⟨a2, c2, rfl⟩ := owns_slice ho2
        clear ho2 hg2
        go_wp2_with fail
        go_roundw
        case rel => exact ⟨k + 1, by go_num, hlt, HO2, HB2⟩
        case measure => simp [intOf]; omega
      | false =>
        have HO2 : Hid (wr.ownsRow B 3 1 (.slice ao (nodesK bits k).length cp) (nodesK bits (k + 1)).length ((nodesK bits (k + 1)).map (.int .i64))) := by
          show _
          rw [HN.out rfl]
          exact ho.out
        clear HY HN
        go_wp2_with fail
        go_roundw
        case rel => exact ⟨k + 1, by go_num, hlt, HO2, hb⟩
        case measure => simp [intOf]; omega
    · have t9 : decide (((k + 1 : Nat) : Int) ≤ 9) = false := decide_eq_false (by omega)
      have t10 : decide ((k : Int) + 1 ≤ 9) = false := decide_eq_false (by omega)
      have hk9 : k = 9 := by omega
      have Hq : Hid (post (.returned (.slice ao (nodesK bits k).length cp)) wr) := by
        show post _ _
        rw [← HP.out]
        refine ⟨_, rfl, ?_, by rw [hB.out]; exact hb.out⟩
        have h := ho.out
        rw [hk9] at h ⊢
        rw [hB.out]
        exact h
      clear hk9 hlt
      go_wp2_with fail
      exact Hq.out
end Go.Proofs.Ytgdmcbjlfnjhjaa

namespace Go.Proofs.Ytgdmcbjlfnjhjaa
open Go.RowKit Wm Mm
set_option linter.unusedVariables false
set_option linter.unusedSimpArgs false

abbrev rowI (x : Int) : List Value := [.int .i64 x]
/-- a slice of integers in the blocks of F -/
abbrev IntsS (F : Nat → Prop) (w : World) (v : Value) (l : List Int) : Prop := Sl 1 (Plain rowI) F w v l
theorem IntsS.ints {F : Nat → Prop} {w : World} {v : Value} {l : List Int} (h : IntsS F w v l) : Ints w v l := by
  obtain ⟨ao, cap, rfl, _, hm, hx⟩ := h
  refine ⟨ao, cap, rfl, fun hne => ?_, hm⟩
  obtain ⟨b, off, rfl, _, _, hj⟩ := hx hne
  refine ⟨b, off, rfl, fun j x hx => ?_⟩
  obtain ⟨us, _, h2, h3⟩ := hj j x hx
  have e : us = rowI x := h2
  have := h3 0 (.int .i64 x) (by rw [e]; rfl)
  simpa using this
theorem flatMap_rowI (l : List Int) : l.flatMap rowI = l.map (.int .i64) := by
  induction l with
  | nil => rfl
  | cons x l ih => simp [ih]
theorem IntsS.own {S : Nat} {w : World} {v : Value} {l : List Int} {F : Nat → Prop} (h : w.ownsRow S 3 1 v l.length (l.map (.int .i64))) (hF : ∀ g, v.ownBlock = some g → S ≤ g → g < w.heap.size → F g) : IntsS F w v l := by
  rw [← flatMap_rowI] at h
  exact Sl.own rowI (fun _ => rfl) h (fun _ _ => rfl) hF
theorem IntsS.toF {F : Nat → Prop} {S : Nat} {w : World} {v : Value} {l : List Int} (h : IntsS F w v l) (hF : ∀ k, F k → S ≤ k) : IntsF S w v l := by
  obtain ⟨ao, cap, rfl, _, hm, hx⟩ := h
  refine ⟨ao, cap, rfl, fun hne => ?_, hm⟩
  obtain ⟨b, off, rfl, hb, _, hj⟩ := hx hne
  refine ⟨b, off, rfl, hF b hb, fun j x hx => ?_⟩
  obtain ⟨us, _, h2, h3⟩ := hj j x hx
  have e : us = rowI x := h2
  have := h3 0 (.int .i64 x) (by rw [e]; rfl)
  simpa using this
theorem IntsS.at {F : Nat → Prop} {w : World} {a : Option Addr} {n c : Nat} {l : List Int} (h : IntsS F w (.slice a n c) l) {k : Nat} (hk : k < l.length) : ∃ b off, a = some ⟨b, off, none⟩ ∧ F b ∧ w.cell? ⟨b, off + k, none⟩ = some (.int .i64 l[k]) := by
  obtain ⟨b, off, us, rfl, hF, _, hus, hcs⟩ := Sl.at h hk
  have e : us = rowI l[k] := hus
  have := hcs 0 (.int .i64 l[k]) (by rw [e]; rfl)
  exact ⟨b, off, rfl, hF, by simpa using this⟩
def confV (voters : Int) : List Int := if nodesP voters = [] then [1] else nodesP voters
def confP (voters learners : Int) : Conf := ⟨confV voters, [], (nodesP learners).filter (fun x => !(hasB (confV voters) x))⟩
theorem confV_len (voters : Int) : (confV voters).length ≤ 9 := by
  unfold confV
  split
  · simp
  · exact nodesK_len _ _
theorem confV_rising (voters : Int) : risingB (confV voters) = true ∧ confV voters ≠ [] := by
  unfold confV
  split
  · exact ⟨rfl, by simp⟩
  · rename_i h
    exact ⟨nodes_rising _, h⟩
theorem rising_filter {l : List Int} (p : Int → Bool) (h : risingB l = true) : risingB (l.filter p) = true := by
  rw [rising_iff] at h ⊢
  exact ⟨h.1.filter _, fun x hx => h.2 x (List.mem_filter.1 hx).1⟩
theorem confP_valid (voters learners : Int) : validB (confP voters learners) = true := by
  obtain ⟨h1, h2⟩ := confV_rising voters
  refine validB_iff.2 ⟨h2, h1, rising_nil, rising_filter _ (nodes_rising _), fun x hx => ?_⟩
  have h3 : (!(hasB (confV voters) x)) = true := (List.mem_filter.1 hx).2
  refine ⟨fun hv => ?_, by simp [confP]⟩
  have h4 : hasB (confV voters) x = true := hasB_iff.2 hv
  rw [h4] at h3
  cases h3

theorem filter_snoc {l : List Int} {k : Nat} (h : k < l.length) (p : Int → Bool) : (l.take (k + 1)).filter p = (l.take k).filter p ++ (if p l[k] = true then [l[k]] else []) := by
  rw [List.take_succ_eq_append_getElem h, List.filter_append]
  congr 1
  simp [List.filter_cons]
/-- what stands while the learners are chosen -/
structure CfSt (W0 wr : World) (B D C : Nat) (va vl : Value) (L : List Int) : Prop where
  cell : wr.heap[C]? = some (.cells #[va, .slice none 0 0, vl] 25 (0, 0))
  res : wr.heap[D]? = some (.cells #[.slice none 0 0, .slice none 0 0, .slice none 0 0] 25 (0, 0))
  own : wr.ownsRow W0.heap.size 3 1 vl L.length (L.map (.int .i64))
  keep : Agree (fun k => k ≠ C ∧ k < W0.heap.size) W0 wr
  bel : Below B W0 wr
theorem CfSt.drew {W0 wr : World} {B D C : Nat} {va vl : Value} {L : List Int} (h : CfSt W0 wr B D C va vl L) : CfSt W0 wr.drew B D C va vl L :=
  ⟨h.cell, h.res, h.own.drew, h.keep.trans (Agree.drew _ _), h.bel.drew⟩
theorem CfSt.drewN {W0 wr : World} {B D C : Nat} {va vl : Value} {L : List Int} (h : CfSt W0 wr B D C va vl L) (n : Nat) : CfSt W0 (wr.drewN n) B D C va vl L :=
  ⟨h.cell, h.res, own_up h.own (Up.refl _ _) (Nat.le_refl _), h.keep.trans (Agree.drewN _ _ n), below_drewN h.bel n⟩
theorem CfSt.push {W0 wr w2 : World} {B D C : Nat} {va vl v' : Value} {L : List Int} {x : Int} {o : Obj} (h : CfSt W0 wr B D C va vl L) (hD : D < C) (hC : C < W0.heap.size) (hB : B ≤ D)
    (hg : (wr.alloc o).grownBy w2 vl.ownBlock) (ho : w2.ownsRow W0.heap.size 3 1 v' (L.length + 1) (L.map (.int .i64) ++ [.int .i64 x])) :
    w2.heap[C]? = some (.cells #[va, .slice none 0 0, vl] 25 (0, 0)) ∧ CfSt W0 (w2.setCell ⟨C, 2, none⟩ v') B D C va v' (L ++ [x]) := by
  have hne : ∀ k, k < W0.heap.size → some k ≠ vl.ownBlock := fun k hk => own_other h.own hk
  have hsz := h.keep.1
  have keep : ∀ k, k < W0.heap.size → w2.heap[k]? = wr.heap[k]? := fun k hk =>
    (hg.block k (by simp only [World.size_alloc]; omega) (hne k hk)).trans (hp_past _ _ (by omega))
  have hc2 := (keep C hC).trans h.cell
  refine ⟨hc2, ⟨?_, ?_, ?_, ?_, ?_⟩⟩
  · rw [heap_setCell, if_pos rfl, hc2]; simp [storeIn]
  · exact hp_set_other ((keep D (by omega)).trans h.res) (by simp; omega)
  · have : w2.ownsRow W0.heap.size 3 1 v' (L ++ [x]).length ((L ++ [x]).map (.int .i64)) := by
      rw [List.length_append, List.map_append]
      exact ho
    exact own_up this (Up.setCell W0.heap.size w2 (a := ⟨C, 2, none⟩) hC _) (Nat.le_refl _)
  · refine ⟨by have := hg.size; simp only [World.size_alloc] at this; simp; omega, fun k hk hlt => ?_⟩
    rw [heap_setCell, if_neg (fun e => hk.1 e.symm), keep k hlt]
    exact h.keep.2 k hk hlt
  · have h1 : Below B wr (wr.alloc o) := (Below.refl _ _).alloc (by omega) _
    have h2 : Below B (wr.alloc o) w2 := ⟨hg.os, hg.tape, hg.output, hg.size, fun k hk => hg.block k (by simp only [World.size_alloc]; omega) (hne k (by omega))⟩
    exact ((h.bel.trans h1).trans h2).setCell (by show B ≤ C; omega) _

set_option maxHeartbeats 4000000 in
theorem configOf_law (voters learners : Int) (w : World) :
    Calls Try.prog 8 #[.int .i64 voters, .int .i64 learners] w fun e w' => ∃ a b d, e = .returned (.agg #[a, b, d]) ∧ Config3F w.heap.size w' a b d (confP voters learners) ∧ Below w.heap.size w w' := by
  obtain ⟨post, HP⟩ := hide (fun (e : Ending) (w' : World) => ∃ a b d, e = .returned (.agg #[a, b, d]) ∧ Config3F w.heap.size w' a b d (confP voters learners) ∧ Below w.heap.size w w')
  rw [HP.out]
  obtain ⟨W1, hW1⟩ := hide (w.alloc (.cells #[.slice none 0 0, .slice none 0 0, .slice none 0 0] 25))
  obtain ⟨D, hD⟩ := hide w.heap.size
  have Hb1 : Hid (Below D w W1) := by show Below _ _ _; rw [← hW1.out, ← hD.out]; exact (Below.refl _ _).alloc (Nat.le_refl _) _
  have HD1 : Hid (W1.heap[D]? = some (.cells #[.slice none 0 0, .slice none 0 0, .slice none 0 0] 25 (0, 0))) := by show _ = _; rw [← hW1.out, ← hD.out]; exact hp_at _ _ rfl
  have K1 := Lib.hid (nodes_law voters W1)
  go_enter Try.func8, Try.ntmps8
  go_wp2_with fail
  rw [hW1.out]
  try rw [hD.out]
  refine K1.out.mono ?_
  rintro e w2 ⟨va, rfl, hoa, hb2⟩
  obtain ⟨aa, ca, rfl⟩ := owns_slice hoa
  have HD2 : Hid (w2.heap[D]? = some (.cells #[.slice none 0 0, .slice none 0 0, .slice none 0 0] 25 (0, 0))) := (hb2.block D (lt_of_block HD1.out)).trans HD1.out
  obtain ⟨W3, hW3⟩ := hide (w2.alloc (.cells #[.slice aa (nodesP voters).length ca, .slice none 0 0, .slice none 0 0] 25))
  obtain ⟨C, hC⟩ := hide w2.heap.size
  have HDC : Hid (D < C) := by show _ < _; rw [← hC.out]; exact lt_of_block HD2.out
  have Hb3 : Hid (Below D w W3) := by
    show Below _ _ _
    rw [← hW3.out]
    exact (Hb1.out.trans (hb2.mono (Nat.le_of_lt (lt_of_block HD1.out)))).alloc (Nat.le_of_lt (lt_of_block HD2.out)) _
  have HD3 : Hid (W3.heap[D]? = some (.cells #[.slice none 0 0, .slice none 0 0, .slice none 0 0] 25 (0, 0))) := by show _ = _; rw [← hW3.out, hp_past _ _ (by have := lt_of_block HD2.out; omega)]; exact HD2.out
  have HC3 : Hid (W3.heap[C]? = some (.cells #[.slice aa (nodesP voters).length ca, .slice none 0 0, .slice none 0 0] 25 (0, 0))) := by show _ = _; rw [← hW3.out, ← hC.out]; exact hp_at _ _ rfl
  have HA3 : Hid (IntsS (fun k => D < k ∧ k ≠ C) W3 (.slice aa (nodesP voters).length ca) (nodesP voters)) := by
    show IntsS _ _ _ _
    rw [← hW3.out]
    refine IntsS.own (hoa.alloc _) (fun g hg h1 h2 => ?_)
    have h3 := (hoa.lt g hg).2
    have := lt_of_block HD1.out
    have := hC.out
    omega
  clear hoa hb2
  have c0 := cell_n HC3.out 0 (v := .slice aa (nodesP voters).length ca) rfl
  have f0 := free_n HC3.out 0
  go_upto_if 15 with (fail)
  rw [hW3.out]
  try rw [hC.out]
  go_cut [] from 16 to 17 (fun wc => ∃ a c, Hid (wc.heap[C]? = some (.cells #[.slice a (confV voters).length c, .slice none 0 0, .slice none 0 0] 25 (0, 0))) ∧ Hid (wc.heap[D]? = some (.cells #[.slice none 0 0, .slice none 0 0, .slice none 0 0] 25 (0, 0))) ∧ Hid (Below D w wc) ∧ Hid (IntsS (fun k => D < k ∧ k ≠ C) wc (.slice a (confV voters).length c) (confV voters)))
  case first =>
    by_cases hv : nodesP voters = []
    · have e1 : confV voters = [1] := by rw [confV, if_pos hv]
      have t0 : (((nodesP voters).length : Int) == 0) = true := by rw [hv]; rfl
      obtain ⟨W4, hW4⟩ := hide ((W3.alloc (.cells #[.int .i64 1] 3)).setCell ⟨C, 0, none⟩ (.slice (some ⟨W3.heap.size, 0, none⟩) 1 1))
      have hl := lt_of_block HC3.out
      have hl2 := lt_of_block HD3.out
      have h4 : W4.heap[C]? = some (.cells #[.slice (some ⟨W3.heap.size, 0, none⟩) 1 1, .slice none 0 0, .slice none 0 0] 25 (0, 0)) := by
        rw [← hW4.out, heap_setCell, if_pos rfl, hp_past _ _ (by omega), HC3.out]; rfl
      have h5 : W4.heap[D]? = some (.cells #[.slice none 0 0, .slice none 0 0, .slice none 0 0] 25 (0, 0)) := by
        rw [← hW4.out]
        exact hp_set_other ((hp_past _ _ (by omega)).trans HD3.out) (by have := HDC.out; simp; omega)
      have h6 : Below D w W4 := by
        rw [← hW4.out]
        exact (Hb3.out.alloc (by omega) _).setCell (by have := HDC.out; show D ≤ C; omega) _
      have h7 : W4.heap[W3.heap.size]? = some (.cells #[.int .i64 1] 3 (0, 0)) := by
        rw [← hW4.out]
        exact hp_set_other (hp_at _ _ rfl) (by simp; omega)
      have h8 : IntsS (fun k => D < k ∧ k ≠ C) W4 (.slice (some ⟨W3.heap.size, 0, none⟩) 1 1) [1] := by
        refine ⟨_, _, rfl, ⟨Nat.le_refl _, fun h => by cases h⟩, by simp, fun _ => ⟨W3.heap.size, 0, rfl, ⟨by omega, by omega⟩, lt_of_block h7, fun j y hj => ?_⟩⟩
        have : j = 0 ∧ y = 1 := by
          cases j with
          | zero => simpa using hj.symm
          | succ j => simp at hj
        obtain ⟨rfl, rfl⟩ := this
        refine ⟨[.int .i64 1], rfl, rfl, fun i u hu => ?_⟩
        cases i with
        | zero =>
          obtain rfl : Value.int .i64 1 = u := by simpa using hu
          exact cell_n h7 0 rfl
        | succ i => simp at hu
      have H4 := Lib.hid h4
      have H5 := Lib.hid h5
      have H6 := Lib.hid h6
      have H8 := Lib.hid h8
      have E1 := Lib.hid e1
      have hA : (W3.alloc (.cells #[.int .i64 1] 3)).heap[C]? = some (.cells #[.slice aa (nodesP voters).length ca, .slice none 0 0, .slice none 0 0] 25 (0, 0)) := (hp_past _ _ (by omega)).trans HC3.out
      have g0 := cell_n hA 0 (v := .slice aa (nodesP voters).length ca) rfl
      have g1 := free_n hA 0
      clear h4 h5 h6 h7 h8 hl hl2 hv e1 hA
      go_wp2_with fail
      rw [hW4.out]
      go_meet
      refine ⟨some ⟨W3.heap.size, 0, none⟩, 1, ?_⟩
      rw [E1.out]
      exact ⟨H4.out, H5.out, H6.out, H8.out⟩
    · have e1 : confV voters = nodesP voters := by rw [confV, if_neg hv]
      have t0 : (((nodesP voters).length : Int) == 0) = false := beq_eq_false_iff_ne.2 (by have := List.length_pos_iff.2 hv; omega)
      have E1 := Lib.hid e1
      clear hv e1
      go_wp2_with fail
      go_meet
      refine ⟨aa, ca, ?_⟩
      rw [E1.out]
      exact ⟨HC3.out, HD3.out, Hb3.out, HA3.out⟩
  case rest =>
    obtain ⟨av, cv, hcc, hdd, hbb, haa⟩ := hcut
    obtain ⟨W4, hW4⟩ : ∃ V, V = wc := ⟨_, rfl⟩
    subst hW4
    clear HC3 HD3 HA3 c0 f0 Hb3 HD2 hW3 hC
    have K2 := Lib.hid (nodes_law learners W4)
    go_wp2_with fail
    refine K2.out.mono ?_
    rintro e w5 ⟨vl, rfl, hol, hb5⟩
    obtain ⟨al, cl, rfl⟩ := owns_slice hol
    have hCl := lt_of_block hcc.out
    have hDl := lt_of_block hdd.out
    have Hst : Hid (CfSt w5 w5 D D C (.slice av (confV voters).length cv) (.slice none 0 0) []) :=
      ⟨(hb5.block C hCl).trans hcc.out, (hb5.block D hDl).trans hdd.out, World.ownsRow_nil _ _ _ _, Agree.refl _ _, Below.refl _ _⟩
    have HV : Hid (IntsS (fun k => k ≠ C ∧ k < w5.heap.size) w5 (.slice av (confV voters).length cv) (confV voters)) :=
      Sl.weak (Plain.good _) (Sl.frame (Plain.good _) haa.out (Agree.below hb5)) (fun k hk hlt => ⟨hk.2, hlt⟩)
    have HL : Hid (IntsS (fun k => k ≠ C ∧ k < w5.heap.size) w5 (.slice al (nodesP learners).length cl) (nodesP learners)) :=
      IntsS.own hol (fun g hg h1 h2 => ⟨by omega, h2⟩)
    have HC5 : Hid (C < w5.heap.size) := Nat.lt_of_lt_of_le hCl hb5.size
    have HVF : Hid (IntsS (fun k => D < k ∧ k ≠ C) w5 (.slice av (confV voters).length cv) (confV voters)) := Sl.frame (Plain.good _) haa.out (Agree.below hb5)
    have Hb5 : Hid (Below D w w5) := hbb.out.trans (hb5.mono (Nat.le_of_lt hDl))
    have hn9 : (nodesP learners).length ≤ 9 := nodesK_len _ _
    clear hol hb5 hCl hDl K2 hcc hdd hbb haa
    go_wp2_with fail
    go_loopw [7] (fun i wr => ∃ (k : Nat) (vr : Value), i = .int .i64 k ∧ k ≤ (nodesP learners).length ∧ Hid (CfSt w5 wr D D C (.slice av (confV voters).length cv) vr (((nodesP learners).take k).filter (fun x => !(hasB (confV voters) x))))) (fun i _ => (nodesP learners).length - (intOf i).toNat)
    case atStart => exact ⟨0, _, rfl, Nat.zero_le _, Hst.out⟩
    case round =>
      obtain ⟨k, vr, rfl, hk, hst⟩ := hrel
      obtain ⟨ar, cr, rfl⟩ := owns_slice hst.out.own
      by_cases hlt : k < (nodesP learners).length
      · have hLr : IntsS (fun k => k ≠ C ∧ k < w5.heap.size) wr (.slice al (nodesP learners).length cl) (nodesP learners) := Sl.frame (Plain.good _) HL.out hst.out.keep
        have hVr : IntsS (fun k => k ≠ C ∧ k < w5.heap.size) wr (.slice av (confV voters).length cv) (confV voters) := Sl.frame (Plain.good _) HV.out hst.out.keep
        obtain ⟨bl, ofl, hal, _, hcl⟩ := hLr.at hlt
        have hsn := filter_snoc hlt (fun x => !(hasB (confV voters) x))
        generalize (nodesP learners)[k] = x at hcl hsn
        have KH : Hid (∀ m, Calls Try.prog 21 #[.slice av (confV voters).length cv, .int .i64 x] (wr.drewN m) fun e w' => e = .returned (.bool (hasB (confV voters) x)) ∧ wr.drewN m = w') :=
          fun m => keep_has _ _ x _ (IntsS.ints (Sl.frame (Plain.good _) hVr (Agree.drewN _ _ m)))
        have Hsn := Lib.hid hsn
        obtain ⟨r, hr⟩ := hide (hasB (confV voters) x)
        rw [hr.out] at KH
        have c0 := cell_n hst.out.cell 0 (v := .slice av (confV voters).length cv) rfl
        have Hal := Lib.hid hal
        subst hal
        have hidx : ((k : Int) < ((nodesP learners).length : Int)) := by omega
        clear hLr hVr hsn
        go_upto_region 8 with fail
        go_cut [8] (fun c8 wc => c8 = .bool r ∧ ∃ m, wc = wr.drewN m)
        case first =>
          go_quiet ((go_at_call 21; exact Calls.quiet_of_same ((KH.out _).mono fun e w' h => ⟨h.1, h.2.symm⟩)))
          go_wp2_with fail
          go_meet
          exact ⟨rfl, _, rfl⟩
        case rest =>
          obtain ⟨rfl, m, hm⟩ := hcut
          have HS : Hid (CfSt w5 wc D D C (.slice av (confV voters).length cv) (.slice ar (((nodesP learners).take k).filter (fun x => !(hasB (confV voters) x))).length cr) (((nodesP learners).take k).filter (fun x => !(hasB (confV voters) x)))) := by
            show CfSt _ _ _ _ _ _ _ _
            rw [hm]
            exact hst.out.drewN m
          have hcx : wc.drew.cell? ⟨bl, ofl + k, none⟩ = some (.int .i64 x) := by rw [hm]; exact hcl
          obtain ⟨W7, hW7⟩ : ∃ V, V = wc := ⟨_, rfl⟩
          subst hW7
          clear hm c0 hcl hst
          cases r with
          | true =>
            have HS2 : Hid (CfSt w5 W7 D D C (.slice av (confV voters).length cv) (.slice ar (((nodesP learners).take k).filter (fun x => !(hasB (confV voters) x))).length cr) (((nodesP learners).take (k + 1)).filter (fun x => !(hasB (confV voters) x)))) := by
              show CfSt _ _ _ _ _ _ _ _
              rw [Hsn.out, hr.out]
              simpa using HS.out
            go_wp2_with fail
            go_roundw
            case rel => exact ⟨k + 1, _, by go_num, hlt, HS2⟩
            case measure => simp [intOf]; omega
          | false =>
            obtain ⟨L, hL⟩ := hide (((nodesP learners).take k).filter (fun x => !(hasB (confV voters) x)))
            have hLl : L.length ≤ 9 := by
              rw [← hL.out]
              exact Nat.le_trans (List.length_filter_le _ _) (by rw [List.length_take]; omega)
            rw [hL.out] at HS
            have hnext : ((nodesP learners).take (k + 1)).filter (fun x => !(hasB (confV voters) x)) = L ++ [x] := by
              rw [Hsn.out, hL.out, hr.out]; rfl
            have Hnext := Lib.hid hnext
            have HLl := Lib.hid hLl
            try rw [hL.out]
            clear hnext hLl hL Hsn hr
            have hA : (W7.alloc (.cells #[.int .i64 x] 3)).heap[C]? = some (.cells #[.slice av (confV voters).length cv, .slice none 0 0, .slice ar L.length cr] 25 (0, 0)) := (hp_past _ _ (by have := lt_of_block HS.out.cell; omega)).trans HS.out.cell
            have c2 := cell_n HS.out.drew.cell 2 (v := .slice ar L.length cr) rfl
            have c3 := cell_n HS.out.cell 2 (v := .slice ar L.length cr) rfl
            have c4 := cell_n hA 2 (v := .slice ar L.length cr) rfl
            clear hA
            obtain ⟨i0, hi0, hz0, hz1, hz2⟩ := info_parts info_int
            have hSz : w5.heap.size ≤ W7.heap.size := HS.out.keep.1
            have HSz := Lib.hid hSz
            clear hSz
            go_upto_region 10 with fail
            go_region_law (first
              | (refine step_append_lies _ (by rfl) _ _ _ (by rfl) w5.heap.size 3 i0 _ 1 8 Try.underlying22 hi0 hz0 hz1 hz2 rfl (by omega) (.slice ar L.length cr) L.length (L.map (.int .i64)) (by rfl) ((HS.out.own.alloc _).drew)
                  ⟨W7.heap.size, 0, none⟩ 1 1 [.int .i64 x] (by rfl) (by rfl) (World.news_of_block (cs := #[.int .i64 x]) (t := 3) (fr := (0, 0)) (heap_alloc_new W7 _)) (by simp [Value.oneCell'])
                  (by omega) (by have := HLl.out; unfold maxLen; omega) (by have := HLl.out; omega) (by have := HSz.out; simp; omega) (W7.heap.size + 1) (by simp) ?_
                 intro gg cap w8 hown8 hgrow hat hlt8
                 have hps := HS.out.push HDC.out HC5.out (Nat.le_refl _) (o := .cells #[.int .i64 x] 3) ⟨hgrow.os, hgrow.tape, hgrow.output, hgrow.size, hgrow.block⟩ hown8
                 have c8 := cell_n hps.1 2 (v := .slice ar L.length cr) rfl
                 have f8 := free_n hps.1 2
                 have Hps := Lib.hid hps.2
                 clear hps hown8 hgrow hat hlt8))
            all_goals
              clear c2 c3 c4 hcx
              go_wp2_with fail
              go_roundw
              case rel => exact ⟨k + 1, _, by go_num, hlt, by rw [Hnext.out]; exact Hps⟩
              case measure => simp [intOf]; omega
      · have hkn : k = (nodesP learners).length := by omega
        have hfl : ((nodesP learners).take k).filter (fun x => !(hasB (confV voters) x)) = (confP voters learners).l := by rw [hkn, List.take_length]; rfl
        have hst2 := hst.out
        rw [hfl] at hst2
        have Hst2 := Lib.hid hst2
        have hlen : (((nodesP learners).take k).filter (fun x => !(hasB (confV voters) x))).length = (confP voters learners).l.length := by rw [hfl]
        try rw [hlen]
        have HF : Hid (post (.returned (.agg #[.slice av (confV voters).length cv, .slice none 0 0, .slice ar (confP voters learners).l.length cr])) (setAll wr D [.slice av (confV voters).length cv, .slice none 0 0, .slice ar (confP voters learners).l.length cr])) := by
          show post _ _
          rw [← HP.out]
          rw [hD.out]
          refine ⟨_, _, _, rfl, ⟨?_, IntsF.nil _ _, ?_⟩, setAll_below (Hb5.out.trans Hst2.out.bel) (Nat.le_refl _) _⟩
          · have h1 : Agree (fun k => D < k ∧ k ≠ C) w5 wr := ⟨Hst2.out.keep.1, fun k hk hlt => Hst2.out.keep.2 k ⟨hk.2, hlt⟩ hlt⟩
            have h2 := IntsS.toF (S := D + 1) (Sl.frame (Plain.good _) HVF.out h1) (fun k hk => hk.1)
            exact (h2.up (Up.setAll (S := D + 1) wr (Nat.lt_succ_self _) _) (Nat.le_refl _)).base (Nat.le_succ _)
          · have h2 := IntsF.of_own Hst2.out.own
            have h3 : D + 1 ≤ w5.heap.size := by have := HC5.out; have := HDC.out; omega
            exact (h2.up (Up.setAll (S := D + 1) wr (Nat.lt_succ_self _) _) h3).base (by omega)
        have c0 := cell_n Hst2.out.cell 0 (v := .slice av (confV voters).length cv) rfl
        have c1 := cell_n Hst2.out.cell 1 (v := .slice none 0 0) rfl
        have c2 := cell_n Hst2.out.cell 2 (v := .slice ar (confP voters learners).l.length cr) rfl
        have d0 := cell_n Hst2.out.res 0 (v := .slice none 0 0) rfl
        have d1 := cell_n Hst2.out.res 1 (v := .slice none 0 0) rfl
        have d2 := cell_n Hst2.out.res 2 (v := .slice none 0 0) rfl
        have g0 := free_n Hst2.out.res 0
        have g1 := free_n Hst2.out.res 1
        have g2 := free_n Hst2.out.res 2
        have HR : Hid ((setAll wr D [.slice av (confV voters).length cv, .slice none 0 0, .slice ar (confP voters learners).l.length cr]).heap[D]? = some (.cells #[.slice av (confV voters).length cv, .slice none 0 0, .slice ar (confP voters learners).l.length cr] 25 (0, 0))) := setAll_at (xs := [.slice none 0 0, .slice none 0 0, .slice none 0 0]) Hst2.out.res _ rfl
        clear hkn hfl hst2 hlen
        go_wp2_with fail
        change bodyPost _ _ _ Exit.ret _ (setAll wr D [.slice av (confV voters).length cv, .slice none 0 0, .slice ar (confP voters learners).l.length cr])
        generalize setAll wr D [.slice av (confV voters).length cv, .slice none 0 0, .slice ar (confP voters learners).l.length cr] = W9 at HF HR ⊢
        clear c0 c1 c2 d0 d1 d2
        have c0 := cell_n HR.out 0 (v := .slice av (confV voters).length cv) rfl
        have c1 := cell_n HR.out 1 (v := .slice none 0 0) rfl
        have c2 := cell_n HR.out 2 (v := .slice ar (confP voters learners).l.length cr) rfl
        refine bodyPost_ret (by simp [results, Try.results8, go_sem, c0, c1, c2]; rfl) rfl ?_
        exact HF.out
end Go.Proofs.Ytgdmcbjlfnjhjaa
