/-
  What is known of the others, copied with a mark behind its end: made; compared; held still. What a leader knows at first: track.Begin. What a leader knows at first: ref.Progresses.
-/
import Derived.Test.YtgdmcbjlfnjhjaaTrj
import Derived.Deep.DeepCutAuto
import Derived.Test.YtgdmcbjlfnjhjaaTrm
import Derived.Test.YtgdmcbjlfnjhjaaCrf
namespace Go.Proofs.Ytgdmcbjlfnjhjaa
open Go.RowKit Wm Mm
set_option linter.unusedVariables false
set_option linter.unusedSimpArgs false

abbrev markG : ProgP := ⟨99, 0, 0, 0, false, 0⟩
/-- a copy, with a mark behind its end -/
def HeldG (S : Nat) (w : World) (v : Value) (l : List ProgP) : Prop :=
  ∃ a c, v = .slice a l.length c ∧ w.ownsRow S 27 6 (.slice a (l.length + 1) c) (l.length + 1) ((l ++ [markG]).flatMap rowG)
theorem HeldG.below {S : Nat} {w w' : World} {v : Value} {l : List ProgP} (h : HeldG S w v l) (hb : Below w.heap.size w w') : HeldG S w' v l := by
  obtain ⟨a, c, rfl, ho⟩ := h
  exact ⟨a, c, rfl, own_below ho hb⟩
theorem HeldG.base {S S' : Nat} {w : World} {v : Value} {l : List ProgP} (h : HeldG S w v l) (hs : S' ≤ S) : HeldG S' w v l := by
  obtain ⟨a, c, rfl, ho⟩ := h
  exact ⟨a, c, rfl, own_base ho hs⟩
theorem HeldG.full {S : Nat} {w : World} {a : Option Addr} {n c : Nat} {l : List ProgP} (h : HeldG S w (.slice a n c) l) : n = l.length ∧ Prgs (fun k => S ≤ k) w (.slice a (l.length + 1) c) (l ++ [markG]) := by
  obtain ⟨a', c', he, ho⟩ := h
  injection he with e1 e2 e3
  subst e1; subst e2; subst e3
  refine ⟨rfl, OwnPr.prgs ?_⟩
  show World.ownsRow _ _ _ _ _ _ _
  rw [List.length_append]
  exact ho
theorem HeldG.prgs {S : Nat} {w : World} {v : Value} {l : List ProgP} (h : HeldG S w v l) : Prgs (fun k => S ≤ k) w v l := by
  obtain ⟨a, c, rfl, _⟩ := id h
  have := (h.full.2).take (k := l.length) (by simp)
  simpa using this
set_option maxHeartbeats 1000000 in
theorem progresses_law (v : Value) (l : List ProgP) (F : Nat → Prop) (w : World) (h : Prgs F w v l) (hn : l.length ≤ 2932031007317) :
    Calls Try.prog 24 #[v] w fun e w' => ∃ v', e = .returned v' ∧ HeldG w.heap.size w' v' l ∧ Below w.heap.size w w' := by
  obtain ⟨post, HP⟩ := hide (fun (e : Ending) (w' : World) => ∃ v', e = .returned v' ∧ HeldG w.heap.size w' v' l ∧ Below w.heap.size w w')
  rw [HP.out]
  obtain ⟨ao, cap, rfl, _, _⟩ := h.slice
  have Hs := Lib.hid (src_sl (P := Try.prog) (tx := 28) rowG Try.underlying28 (by decide) rowG_len rowG_one h)
  have Hn := Lib.hid hn
  clear h hn
  go_enter Try.func24, Try.ntmps24
  go_wp2_with (at_builtin; refine wpList_append_src rfl _ _ 28 28 rfl w.heap.size 27 _ 6 48 Try.underlying28 info_prg rfl _ 0 [] rfl (World.ownsRow_nil _ _ _ _) _ _ _ rfl Hs.out (by have := Hn.out; unfold maxLen; omega) (by have := Hn.out; omega) (Nat.le_refl _) ?_)
  intro v1 w1 ho1 hg1
  try simp only [Nat.zero_add, List.nil_append] at ho1
  have Hb1 : Hid (Below w.heap.size w w1) := below_own (World.ownsRow_nil w w.heap.size 27 6) hg1 (Nat.le_refl _) (Nat.le_refl _)
  have HSz : Hid (w.heap.size ≤ w1.heap.size) := Hb1.out.size
  have Ho1 := Lib.hid ho1
  obtain ⟨a1, c1, rfl⟩ := owns_slice ho1
  clear ho1 hg1
  go_wp2_with (at_builtin; refine wpList_push rfl _ _ 28 rfl w.heap.size 27 _ 6 48 Try.underlying28 info_prg rfl (by decide) _ _ _ rfl Ho1.out _ rfl rfl (by intro u hu; simp at hu; rcases hu with rfl | rfl | rfl | rfl | rfl | rfl <;> rfl) (by have := Hn.out; unfold maxLen; omega) (by have := Hn.out; omega) HSz.out ?_)
  intro v2 w2 ho2 hg2
  obtain ⟨a2, c2, rfl⟩ := owns_slice ho2
  have Hb2 : Hid (Below w.heap.size w w2) := Hb1.out.trans (below_own Ho1.out hg2 (Nat.le_refl _) HSz.out)
  have HH : Hid (HeldG w.heap.size w2 (.slice a2 l.length c2) l) := ⟨a2, c2, rfl, by rw [List.flatMap_append]; exact ho2⟩
  have hcap : l.length + 1 ≤ c2 := by
    rcases ho2.2 with ⟨h, h0⟩ | ⟨g, cap, cur, h, _, _, h1, _⟩
    · injection h with _ e2 e3; omega
    · injection h with _ e2 e3; omega
  have hlc : l.length ≤ c2 := by omega
  have Hp : Hid (post (.returned (.slice a2 l.length c2)) w2) := by
    show post _ _
    rw [← HP.out]; exact ⟨_, rfl, HH.out, Hb2.out⟩
  clear ho2 hg2
  go_wp2_with fail
  first | exact Hp.out | (go_ret; exact Hp.out)
set_option maxHeartbeats 2000000 in
theorem sameProgress_law (v u : Value) (l : List ProgP) (F G : Nat → Prop) (w : World) (hv : Prgs F w v l) (hu : Prgs G w u l) (hn : l.length ≤ 2932031007317) :
    Calls Try.prog 28 #[v, u] w fun e w' => e = .returned (.bool true) ∧ Below w.heap.size w w' := by
  obtain ⟨post, HP⟩ := hide (fun (e : Ending) (w' : World) => e = .returned (.bool true) ∧ Below w.heap.size w w')
  rw [HP.out]
  obtain ⟨a, c, rfl, _⟩ := hv.slice
  obtain ⟨uo, uc, rfl, _, _⟩ := hu.slice
  have Hv : Hid (∀ w', Below w.heap.size w w' → Prgs F w' (.slice a l.length c) l) := fun w' h => hv.frame (Plain.good _) (Agree.below h)
  have Hu : Hid (∀ w', Below w.heap.size w w' → Prgs G w' (.slice uo l.length uc) l) := fun w' h => hu.frame (Plain.good _) (Agree.below h)
  have z0 : ((l.length : Int) == (l.length : Int)) = true := beq_self_eq_true _
  clear hv hu
  go_enter Try.func28, Try.ntmps28
  go_wp2_with fail
  go_loopw [5] (fun i wr => ∃ k : Nat, i = .int .i64 (k : Int) ∧ k ≤ l.length ∧ Hid (Below w.heap.size w wr)) (fun i _ => l.length - (intOf i).toNat)
  case atStart => exact ⟨0, rfl, Nat.zero_le _, by first | exact Below.refl _ _ | exact (Below.refl _ _).drew | exact below_drewN (Below.refl _ _) _⟩
  case round =>
    obtain ⟨k, rfl, hk, HB⟩ := hrel
    by_cases hlt : k < l.length
    · obtain ⟨b1, o1, rfl, p0, p1, p2, p3, p4, p5⟩ := (Hv.out _ HB.out).six hlt
      obtain ⟨b2, o2, rfl, q0, q1, q2, q3, q4, q5⟩ := (Hu.out _ HB.out).six hlt
      obtain ⟨o, ho⟩ := hide l[k]
      rw [ho.out] at p0 p1 p2 p3 p4 p5 q0 q1 q2 q3 q4 q5
      have i1 : decide ((k : Int) < (l.length : Int)) = true := decide_eq_true (by omega)
      have hk1 : k + 1 ≤ 2932031007318 := by omega
      go_upto_region 6 with fail
      go_region
      all_goals
        go_wp2_with fail
        go_roundw
        case rel => exact ⟨k + 1, by go_num, by omega, by first | exact HB.out | exact HB.out.drew | exact below_drewN HB.out _⟩
        case measure => simp [intOf]; omega
    · have Hq : Hid (post (.returned (.bool true)) wr) := by
        show post _ _
        rw [← HP.out]; exact ⟨rfl, HB.out⟩
      have t0 : decide (k < l.length) = false := decide_eq_false hlt
      clear hlt
      go_wp2_with fail
      first | exact Hq.out | (go_ret; exact Hq.out)
set_option maxHeartbeats 2000000 in
theorem heldProgresses_law (v u : Value) (S : Nat) (l : List ProgP) (F : Nat → Prop) (w : World) (hv : HeldG S w v l) (hu : Prgs F w u l) (hn : l.length ≤ 2932031007317) :
    Calls Try.prog 35 #[v, u] w fun e w' => e = .returned (.bool true) ∧ Below w.heap.size w w' := by
  have K := Lib.hid (sameProgress_law v u l _ F w hv.prgs hu hn)
  obtain ⟨ao, cap, rfl, _⟩ := id hv
  have h := hv.full.2
  have hcap : l.length + 1 ≤ cap ∧ l.length + 1 ≤ 9223372036854775807 := by
    obtain ⟨a, c, he, h3, h4⟩ := h.slice
    injection he with e1 e2 e3
    simp at h3 h4
    omega
  have HF : Hid (∀ w', Below w.heap.size w w' → Prgs (fun k => S ≤ k) w' (.slice ao (l.length + 1) cap) (l ++ [markG])) := fun w' hb => h.frame (Plain.good _) (Agree.below hb)
  obtain ⟨ao2, cap2, rfl, _, _⟩ := hu.slice
  obtain ⟨hc1, hc2⟩ := hcap
  clear h hu hv
  go_enter Try.func35, Try.ntmps35
  go_wp2_with fail
  refine K.out.mono ?_
  rintro e w1 ⟨rfl, hb⟩
  obtain ⟨b, off, us, rfl, _, _, hus, hcs⟩ := (HF.out _ hb).at (k := l.length) (by simp)
  have e1 : us = rowG markG := by
    have : us = rowG (l ++ [markG])[l.length] := hus
    simpa using this
  subst e1
  have d0 := hcs 0 _ rfl
  rw [Nat.add_zero] at d0
  have p1 : (l.length : Int) < ((l.length + 1 : Nat) : Int) := by omega
  have Hb := Lib.hid hb
  clear hcs hus hb
  go_wp2_with fail
  go_ret
  exact ⟨rfl, Hb.out⟩
end Go.Proofs.Ytgdmcbjlfnjhjaa

namespace Go.Proofs.Ytgdmcbjlfnjhjaa
open Go.RowKit Wm Mm
set_option linter.unusedVariables false
set_option linter.unusedSimpArgs false

/-- the first of a node -/
def firstG (l : List ProgP) (n : Int) : Option ProgP := l.find? (fun p => p.node == n)
/-- of a member that was not known -/
def freshG (self last n : Int) : ProgP := if (n == self) = true then ⟨n, last, wrap64 (last + 1), 2, true, 0⟩ else ⟨n, 0, wrap64 (last + 1), 1, false, 0⟩
def progE (l : List ProgP) (self last n : Int) : ProgP := (firstG l n).getD (freshG self last n)
theorem firstG_take {l : List ProgP} {k : Nat} (h : k < l.length) (n : Int) : firstG (l.take (k + 1)) n = (firstG (l.take k) n).or (if (l[k].node == n) = true then some l[k] else none) := by
  unfold firstG
  rw [List.take_add_one, List.getElem?_eq_getElem h, List.find?_append]
  congr 1
  show List.find? _ [l[k]] = _
  rw [List.find?_cons]
  cases (l[k].node == n) <;> rfl
theorem firstG_drop {l : List ProgP} {k : Nat} (h : k < l.length) (n : Int) : firstG (l.drop k) n = if (l[k].node == n) = true then some l[k] else firstG (l.drop (k + 1)) n := by
  unfold firstG
  rw [List.drop_eq_getElem_cons h, List.find?_cons]
  cases (l[k].node == n) <;> rfl
theorem firstG_at {l : List ProgP} {k : Nat} (h : k < l.length) {n : Int} (h0 : firstG (l.take k) n = none) (h1 : (l[k].node == n) = true) : firstG l n = some l[k] := by
  have h2 := firstG_take h n
  rw [h0, if_pos h1] at h2
  have h3 : firstG l n = (firstG (l.take (k + 1)) n).or (firstG (l.drop (k + 1)) n) := by
    unfold firstG
    rw [← List.find?_append, List.take_append_drop]
  rw [h3, h2]
  rfl
theorem ints_cell {w : World} {a : Option Addr} {n c : Nat} {l : List Int} (h : Ints w (.slice a n c) l) (j : Nat) (hj : j < l.length) :
    ∃ b off, a = some ⟨b, off, none⟩ ∧ w.cell? ⟨b, off + j, none⟩ = some (.int .i64 l[j]) := by
  obtain ⟨ao, cap, he, h1, h2⟩ := h
  obtain ⟨b, off, rfl, h3⟩ := h1 (list_ne hj)
  injection he with e1 e2 e3
  exact ⟨b, off, e1, h3 j _ (List.getElem?_eq_getElem hj)⟩
set_option maxHeartbeats 1000000 in
theorem begin1_law (p : ProgP) (n : Int) (I : Nat) (w : World) (hI : w.heap[I]? = some (blkI n)) :
    Calls Try.prog 75 #[.agg (arrG p), .pointer (some ⟨I, 0, none⟩)] w fun e w' => e = .returned (.bool (p.node == n)) ∧ Below w.heap.size w w' := by
  obtain ⟨V, hV⟩ := hide (w.alloc (.cells (arrG p) 27))
  obtain ⟨C, hC⟩ := hide w.heap.size
  have h1 : V.heap[C]? = some (.cells (arrG p) 27 (0, 0)) := by rw [← hV.out, ← hC.out]; exact hp_at _ _ rfl
  have h2 : V.heap[I]? = some (blkI n) := by rw [← hV.out]; exact (hp_past _ _ (by have := lt_of_block hI; omega)).trans hI
  have c0 := cell_n h1 0 (v := .int .i64 p.node) rfl
  have c1 := cell_n h2 0 (v := .int .i64 n) rfl
  have hb : Hid (Below w.heap.size w V) := by show Below _ _ _; rw [← hV.out]; exact (Below.refl _ _).alloc (Nat.le_refl _) _
  obtain ⟨z1, hz1⟩ := hide (p.node == n)
  have e1 := hz1.out
  rw [hz1.out]
  obtain ⟨post, HP⟩ := hide (fun (e : Ending) (w' : World) => e = .returned (.bool z1) ∧ Below w.heap.size w w')
  rw [HP.out]
  have Hp : Hid (post (.returned (.bool z1)) V) := by
    show post _ _
    rw [← HP.out]; exact ⟨rfl, hb.out⟩
  clear hI h1 h2
  go_enter Try.func75, Try.ntmps75
  go_upto_region 1 with fail
  rw [hV.out, hC.out]
  go_wp2_with fail
  first | exact Hp.out | (go_ret; exact Hp.out)
set_option maxHeartbeats 2000000 in
theorem index_law (n : Int) (I : Nat) (v : Value) (l : List ProgP) (F : Nat → Prop) (w : World) (hI : w.heap[I]? = some (blkI n)) (h : Prgs F w v l) (hl : l.length ≤ 2932031007317) :
    Calls Try.prog 74 #[v, .func (.func 75) #[] #[.pointer (some ⟨I, 0, none⟩)]] w fun e w' => (∃ i : Int, e = .returned (.int .i64 i) ∧ ((i = -1 ∧ firstG l n = none) ∨ ∃ k : Nat, ∃ hk : k < l.length, i = (k : Int) ∧ firstG l n = some l[k])) ∧ Below w.heap.size w w' := by
  obtain ⟨post, HP⟩ := hide (fun (e : Ending) (w' : World) => (∃ i : Int, e = .returned (.int .i64 i) ∧ ((i = -1 ∧ firstG l n = none) ∨ ∃ k : Nat, ∃ hk : k < l.length, i = (k : Int) ∧ firstG l n = some l[k])) ∧ Below w.heap.size w w')
  rw [HP.out]
  obtain ⟨ao, cap, rfl, _, _⟩ := h.slice
  have Hh : Hid (∀ w', Below w.heap.size w w' → Prgs F w' (.slice ao l.length cap) l) := fun w' hb => h.frame (Plain.good _) (Agree.below hb)
  have HI : Hid (∀ w', Below w.heap.size w w' → w'.heap[I]? = some (blkI n)) := fun w' hb => (hb.block I (lt_of_block hI)).trans hI
  obtain ⟨S, hS⟩ := hide w.heap.size
  rw [hS.out] at Hh HI HP
  have HSw : Hid (S ≤ w.heap.size) := by show _ ≤ _; rw [hS.out]; exact Nat.le_refl _
  clear h hI
  go_enter Try.func74, Try.ntmps74
  go_wp2
  go_loopw [8] (fun i8 wr => ∃ k : Nat, i8 = .int .i64 k ∧ k ≤ l.length ∧ Hid (firstG (l.take k) n = none) ∧ Hid (Below S w wr)) (fun i _ => l.length - (intOf i).toNat)
  case atStart => exact ⟨0, rfl, Nat.zero_le _, rfl, Below.refl _ _⟩
  case round =>
    obtain ⟨k, rfl, hk, H0, Hb⟩ := hrel
    by_cases hlt : k < l.length
    · obtain ⟨b, off, rfl, m0, m1, m2, m3, m4, m5⟩ := (Hh.out _ Hb.out).six hlt
      have Hs := Lib.hid (firstG_take hlt n)
      have Hat : Hid ((l[k].node == n) = true → firstG l n = some l[k]) := fun h1 => firstG_at hlt H0.out h1
      have Hgo : Hid (∀ w', Below S w w' → (l[k].node == n) = true → post (.returned (.int .i64 (k : Int))) w') := by
        show ∀ w', _ → _
        intro w' hw h1
        rw [← HP.out]
        exact ⟨⟨_, rfl, .inr ⟨k, hlt, rfl, Hat.out h1⟩⟩, hw⟩
      clear Hat
      obtain ⟨p, hp⟩ := hide l[k]
      rw [hp.out] at m0 m1 m2 m3 m4 m5 Hs Hgo
      have HC1 := Lib.hid (begin1_law p n I wr (HI.out wr Hb.out))
      obtain ⟨z, hz⟩ := hide (p.node == n)
      rw [hz.out] at HC1 Hs Hgo
      have hk1 : k + 1 ≤ 2932031007318 := by omega
      go_wp2_with fail
      refine HC1.out.mono ?_
      rintro e w2 ⟨rfl, hb2⟩
      have Hb2 : Hid (Below S w w2) := Hb.out.trans (hb2.mono (Nat.le_trans HSw.out Hb.out.size))
      clear hb2 m0 m1 m2 m3 m4 m5
      dsimp only
      cases z with
      | false =>
        have Hs2 : Hid (firstG (l.take (k + 1)) n = none) := by show _ = _; rw [Hs.out, H0.out]; rfl
        go_wp2_with fail
        go_roundw
        case rel => exact ⟨k + 1, by go_num, hlt, Hs2, Hb2⟩
        case measure => simp [intOf]; omega
      | true =>
        have Hq := Lib.hid (Hgo.out _ Hb2.out rfl)
        go_wp2_with fail
        first | exact Hq.out | (go_ret; exact Hq.out)
    · have Hp : Hid (post (.returned (.int .i64 (-1))) wr) := by
        show post _ _
        rw [← HP.out]
        have h9 := H0.out
        rw [List.take_of_length_le (by omega)] at h9
        exact ⟨⟨_, rfl, .inl ⟨rfl, h9⟩⟩, Hb.out⟩
      have t0 : decide (k < l.length) = false := decide_eq_false hlt
      clear hlt
      go_wp2_with fail
      first | exact Hp.out | (go_ret; exact Hp.out)
theorem map_take_snoc {α β : Type} {l : List α} {k : Nat} (h : k < l.length) (f : α → β) : (l.take (k + 1)).map f = (l.take k).map f ++ [f l[k]] := by
  rw [List.take_add_one, List.getElem?_eq_getElem h, List.map_append]; rfl
set_option maxHeartbeats 4000000 in
theorem begin_track (a b d v : Value) (c : Conf) (l : List ProgP) (F : Nat → Prop) (self last : Int) (w : World) (hc : Config3 w a b d c) (h1 : c.v.length ≤ 1048576) (h2 : c.n.length ≤ 1048576) (h3 : c.l.length ≤ 1048576) (h : Prgs F w v l) (hl : l.length ≤ 2932031007317) (hm : (unionP (c.v ++ (c.n ++ c.l))).length ≤ 1048576) :
    Calls Try.prog 26 #[.agg #[a, b, d], v, .int .i64 self, .int .i64 last] w fun e w' => ∃ v', e = .returned v' ∧ OwnPr w.heap.size w' v' ((unionP (c.v ++ (c.n ++ c.l))).map (progE l self last)) ∧ Below w.heap.size w w' := by
  obtain ⟨W, hW⟩ := hide (w.alloc (.cells #[a, b, d] 25))
  have hxW : W.heap[w.heap.size]? = some (.cells #[a, b, d] 25 (0, 0)) := by rw [← hW.out]; exact hp_at _ _ rfl
  have hbW : Below w.heap.size w W := by rw [← hW.out]; exact (Below.refl _ _).alloc (Nat.le_refl _) _
  obtain ⟨post, HP⟩ := hide (fun (e : Ending) (w' : World) => ∃ v', e = .returned v' ∧ OwnPr w.heap.size w' v' ((unionP (c.v ++ (c.n ++ c.l))).map (progE l self last)) ∧ Below w.heap.size w w')
  rw [HP.out]
  have KM := Lib.hid (members_law a b d c W (hc.mono hbW) h1 h2 h3)
  obtain ⟨ms, hms⟩ := hide (unionP (c.v ++ (c.n ++ c.l)))
  rw [hms.out] at KM HP hm
  obtain ⟨ao, cap, rfl, _, _⟩ := h.slice
  have Hh : Hid (∀ w', Below W.heap.size W w' → Prgs F w' (.slice ao l.length cap) l) := fun w' hb => h.frame (Plain.good _) (Agree.below (hbW.trans (hb.mono hbW.size)))
  have HWw : Hid (∀ w', Below W.heap.size W w' → Below w.heap.size w w') := fun w' hb => hbW.trans (hb.mono hbW.size)
  have HSb : Hid (w.heap.size ≤ W.heap.size) := hbW.size
  obtain ⟨B, hB⟩ := hide w.heap.size
  rw [hB.out] at hxW HWw HP HSb
  have c0 := cell_n hxW 0 (v := a) rfl
  have c1 := cell_n hxW 1 (v := b) rfl
  have c2 := cell_n hxW 2 (v := d) rfl
  obtain ⟨nx, hnx⟩ := hide (wrap64 (last + 1))
  have Hnx := Lib.hid hnx.out
  have e9 := hnx.out
  clear hxW hbW hc h h1 h2 h3 hnx
  go_enter Try.func26, Try.ntmps26
  go_upto_region 1 with fail
  rw [hW.out, hB.out]
  go_wp2_with fail
  refine KM.out.mono ?_
  rintro e w1 ⟨vm, rfl, hom, hb1⟩
  clear c0 c1 c2
  obtain ⟨am, cm, rfl⟩ := owns_slice hom
  have Hm : Hid (∀ w', Below w1.heap.size w1 w' → Ints w' (.slice am ms.length cm) ms) := fun w' hb => Ints.of_own (own_below hom hb)
  have Hg : Hid (∀ w', Below w1.heap.size w1 w' → Below W.heap.size W w') := fun w' hb => hb1.trans (hb.mono hb1.size)
  have HBS : Hid (B ≤ w1.heap.size) := Nat.le_trans HSb.out hb1.size
  obtain ⟨S, hS⟩ := hide w1.heap.size
  rw [hS.out] at Hm Hg HBS
  have HSw : Hid (S ≤ w1.heap.size) := by show _ ≤ _; rw [hS.out]; exact Nat.le_refl _
  have Hb0 : Hid (Below S w1 w1) := Below.refl _ _
  clear hom hb1
  obtain ⟨U, hU⟩ : ∃ U, U = w1 := ⟨_, rfl⟩
  subst hU
  dsimp only
  go_wp2_with fail
  go_loopw [8, 15] (fun v8 i15 wr => ∃ k : Nat, i15 = .int .i64 k ∧ k ≤ ms.length ∧ Hid (OwnPr S wr v8 ((ms.take k).map (progE l self last))) ∧ Hid (Below S U wr)) (fun _ i _ => ms.length - (intOf i).toNat)
  case atStart => exact ⟨0, rfl, Nat.zero_le _, World.ownsRow_nil _ _ _ _, Hb0⟩
  case round =>
    obtain ⟨k, rfl, hk, Ho, Hb⟩ := hrel
    by_cases hlt : k < ms.length
    · obtain ⟨b, off, rfl, m0⟩ := ints_cell (Hm.out _ Hb.out) k hlt
      have Hs := Lib.hid (map_take_snoc hlt (progE l self last))
      have hlen : ((ms.take k).map (progE l self last)).length = k := by rw [List.length_map, List.length_take]; omega
      obtain ⟨n, hn⟩ := hide ms[k]
      rw [hn.out] at m0 Hs
      obtain ⟨L, hL⟩ := hide ((ms.take k).map (progE l self last))
      rw [hL.out] at Ho Hs hlen
      have Hlen := Lib.hid (show L.length ≤ 1048576 by omega)
      obtain ⟨V, hV⟩ := hide (wr.alloc (.cells #[.int .i64 n] 3))
      obtain ⟨C, hC⟩ := hide wr.heap.size
      have hx : V.heap[C]? = some (blkI n) := by rw [← hV.out, ← hC.out]; exact hp_at _ _ rfl
      have hbV : Below S U V := by rw [← hV.out]; exact Hb.out.alloc (Nat.le_trans HSw.out Hb.out.size) _
      have Hx : Hid (∀ w', Below V.heap.size V w' → w'.heap[C]? = some (blkI n) ∧ Hid (Below S U w')) := fun w' h => ⟨(h.block C (lt_of_block hx)).trans hx, hbV.trans (h.mono (Nat.le_trans HSw.out hbV.size))⟩
      have HoV : Hid (OwnPr S V u8 L) := by show World.ownsRow _ _ _ _ _ _ _; rw [← hV.out]; exact Ho.out.alloc _
      have HK := Lib.hid (index_law n C _ l F V hx (Hh.out _ (Hg.out _ hbV)) hl)
      have hk1 : k + 1 ≤ 1048577 := by omega
      clear hx hbV hlen
      go_upto_region 4 with fail
      rw [hV.out, hC.out]
      clear m0
      go_wp2_with fail
      refine HK.out.mono ?_
      rintro e w2 ⟨⟨i, rfl, hi⟩, hb2⟩
      have Ho2 : Hid (OwnPr S w2 u8 L) := own_below HoV.out hb2
      have x2 := Hx.out _ hb2
      have Hb2 := x2.2
      have d0 := cell_n x2.1 0 (v := .int .i64 n) rfl
      have HS2 : Hid (S ≤ w2.heap.size) := Nat.le_trans HSw.out Hb2.out.size
      obtain ⟨a8, n8, rfl⟩ := owns_slice Ho2.out
      clear hb2 x2
      dsimp only
      rcases hi with ⟨rfl, hi⟩ | ⟨j, hj, rfl, hi⟩
      · have Hi : Hid (progE l self last n = freshG self last n) := by show _ = _; unfold progE; rw [hi]; rfl
        clear hi
        obtain ⟨z, hz⟩ := hide (n == self)
        have e7 := hz.out
        have Hi2 : Hid (progE l self last n = if z = true then ⟨n, last, nx, 2, true, 0⟩ else ⟨n, 0, nx, 1, false, 0⟩) := by
          show _ = _; rw [Hi.out]; unfold freshG; rw [hz.out, Hnx.out]
        cases z
        all_goals
          simp only [Bool.false_eq_true, if_false, if_true] at Hi2
          go_wp2_with (at_builtin; refine wpList_push rfl _ _ 28 rfl S 27 _ 6 48 Try.underlying28 info_prg rfl (by decide) _ _ _ rfl Ho2.out _ rfl rfl (by intro u hu; simp at hu; rcases hu with rfl | rfl | rfl | rfl | rfl | rfl <;> rfl) (by have := Hlen.out; unfold maxLen; omega) (by have := Hlen.out; omega) HS2.out ?_)
          intro v' w3 ho hg
          have Ho3 : Hid (OwnPr S w3 v' ((ms.take (k + 1)).map (progE l self last))) := by
            show World.ownsRow _ _ _ _ _ _ _
            rw [Hs.out, Hi2.out, List.flatMap_append, List.length_append]; exact ho
          have Hb3 : Hid (Below S U w3) := Hb2.out.trans (below_own Ho2.out hg (Nat.le_refl _) HS2.out)
          clear ho hg d0
          go_wp2_with fail
          go_roundw
          case rel => exact ⟨k + 1, by go_num, hlt, Ho3, Hb3⟩
          case measure => simp [intOf]; omega
      · have Hi : Hid (progE l self last n = l[j]) := by show _ = _; unfold progE; rw [hi]; rfl
        clear hi
        obtain ⟨b', off', rfl, m0, m1, m2, m3, m4, m5⟩ := (Hh.out _ (Hg.out _ Hb2.out)).six hj
        obtain ⟨p, hp⟩ := hide l[j]
        rw [hp.out] at m0 m1 m2 m3 m4 m5 Hi
        have hjj : j < 2932031007318 := by omega
        go_wp2_with (at_builtin; refine wpList_push rfl _ _ 28 rfl S 27 _ 6 48 Try.underlying28 info_prg rfl (by decide) _ _ _ rfl Ho2.out _ rfl rfl (by intro u hu; simp at hu; rcases hu with rfl | rfl | rfl | rfl | rfl | rfl <;> rfl) (by have := Hlen.out; unfold maxLen; omega) (by have := Hlen.out; omega) HS2.out ?_)
        intro v' w3 ho hg
        have Ho3 : Hid (OwnPr S w3 v' ((ms.take (k + 1)).map (progE l self last))) := by
          show World.ownsRow _ _ _ _ _ _ _
          rw [Hs.out, Hi.out, List.flatMap_append, List.length_append]; exact ho
        have Hb3 : Hid (Below S U w3) := Hb2.out.trans (below_own Ho2.out hg (Nat.le_refl _) HS2.out)
        clear ho hg d0 m0 m1 m2 m3 m4 m5
        go_wp2_with fail
        go_roundw
        case rel => exact ⟨k + 1, by go_num, hlt, Ho3, Hb3⟩
        case measure => simp [intOf]; omega
    · have Hp : Hid (post (.returned u8) wr) := by
        show post _ _
        rw [← HP.out]
        have := Ho.out
        rw [List.take_of_length_le (by omega)] at this
        exact ⟨_, rfl, own_base this HBS.out, HWw.out _ (Hg.out _ Hb.out)⟩
      have t0 : decide (k < ms.length) = false := decide_eq_false hlt
      clear hlt
      go_wp2_with fail
      first | exact Hp.out | (go_ret; exact Hp.out)
end Go.Proofs.Ytgdmcbjlfnjhjaa

namespace Go.Proofs.Ytgdmcbjlfnjhjaa
open Go.RowKit Wm Mm
set_option linter.unusedVariables false
set_option linter.unusedSimpArgs false

theorem setAll_grow (w : World) (b : Nat) (vs : List Value) : w.grownBy (setAll w b vs) (some b) := by
  have : ∀ (vs : List Value) (w1 : World) (i : Nat), w.grownBy w1 (some b) → w.grownBy (setFrom w1 b i vs) (some b) := by
    intro vs
    induction vs with
    | nil => intro w1 i h; exact h
    | cons v vs ih => intro w1 i h; exact ih _ _ (grown_trans h (grown_setCell w1 ⟨b, i, none⟩ v))
  exact this vs w 0 ⟨rfl, rfl, rfl, Nat.le_refl _, fun _ _ _ => rfl⟩
abbrev objG (p : ProgP) : Obj := .cells (arrG p) 27 (0, 0)
theorem progE_drop {l : List ProgP} {k : Nat} (h : k < l.length) (self last n : Int) : progE (l.drop k) self last n = if (l[k].node == n) = true then l[k] else progE (l.drop (k + 1)) self last n := by
  unfold progE
  rw [firstG_drop h]
  by_cases h1 : (l[k].node == n) = true
  · rw [if_pos h1, if_pos h1]; rfl
  · rw [if_neg h1, if_neg h1]
set_option maxHeartbeats 1000000 in
theorem refProgresses_law (a b d v : Value) (c : Conf) (l : List ProgP) (F : Nat → Prop) (self last : Int) (w : World) (hc : Config3 w a b d c) (hs : (-9223372036854775808 : Int) ≤ self ∧ self ≤ 9223372036854775807) (h : Prgs F w v l) (hl : l.length ≤ 2932031007317) :
    Calls Try.prog 25 #[.agg #[a, b, d], v, .int .i64 self, .int .i64 last] w fun e w' => ∃ v', e = .returned v' ∧ OwnPr w.heap.size w' v' ((nineP (fun k : Int => hasB c.v k || (hasB c.n k || hasB c.l k))).map (progE l self last)) ∧ Below w.heap.size w w' := by
  obtain ⟨W, hW⟩ := hide (w.alloc (.cells #[a, b, d] 25))
  have hxW : W.heap[w.heap.size]? = some (.cells #[a, b, d] 25 (0, 0)) := by rw [← hW.out]; exact hp_at _ _ rfl
  have hbW : Below w.heap.size w W := by rw [← hW.out]; exact (Below.refl _ _).alloc (Nat.le_refl _) _
  obtain ⟨post, HP⟩ := hide (fun (e : Ending) (w' : World) => ∃ v', e = .returned v' ∧ OwnPr w.heap.size w' v' ((nineP (fun k : Int => hasB c.v k || (hasB c.n k || hasB c.l k))).map (progE l self last)) ∧ Below w.heap.size w w')
  rw [HP.out]
  have KM := Lib.hid (refMembers_law a b d c W (hc.mono hbW))
  have hm : (nineP (fun k : Int => hasB c.v k || (hasB c.n k || hasB c.l k))).length ≤ 10 := upK_len _ 10
  obtain ⟨ms, hms⟩ := hide (nineP (fun k : Int => hasB c.v k || (hasB c.n k || hasB c.l k)))
  rw [hms.out] at KM HP hm
  obtain ⟨ao, cap, rfl, _, _⟩ := h.slice
  have Hh : Hid (∀ w', Below W.heap.size W w' → Prgs F w' (.slice ao l.length cap) l) := fun w' hb => h.frame (Plain.good _) (Agree.below (hbW.trans (hb.mono hbW.size)))
  have HWw : Hid (∀ w', Below W.heap.size W w' → Below w.heap.size w w') := fun w' hb => hbW.trans (hb.mono hbW.size)
  have HSb : Hid (w.heap.size ≤ W.heap.size) := hbW.size
  obtain ⟨B, hB⟩ := hide w.heap.size
  rw [hB.out] at hxW HWw HP HSb
  have c0 := cell_n hxW 0 (v := a) rfl
  have c1 := cell_n hxW 1 (v := b) rfl
  have c2 := cell_n hxW 2 (v := d) rfl
  obtain ⟨nx, hnx⟩ := hide (wrap64 (last + 1))
  have Hnx := Lib.hid hnx.out
  have e9 := hnx.out
  clear hxW hbW hc h hnx hms
  go_enter Try.func25, Try.ntmps25
  go_upto_region 1 with fail
  rw [hW.out, hB.out]
  go_wp2_with fail
  refine KM.out.mono ?_
  rintro e w1 ⟨vm, rfl, hom, hb1⟩
  clear c0 c1 c2
  obtain ⟨am, cm, rfl⟩ := owns_slice hom
  have Hm : Hid (∀ w', Below w1.heap.size w1 w' → Ints w' (.slice am ms.length cm) ms) := fun w' hb => Ints.of_own (own_below hom hb)
  have Hg : Hid (∀ w', Below w1.heap.size w1 w' → Below W.heap.size W w') := fun w' hb => hb1.trans (hb.mono hb1.size)
  have HBS : Hid (B ≤ w1.heap.size) := Nat.le_trans HSb.out hb1.size
  obtain ⟨S, hS⟩ := hide w1.heap.size
  rw [hS.out] at Hm Hg HBS
  have HSw : Hid (S ≤ w1.heap.size) := by show _ ≤ _; rw [hS.out]; exact Nat.le_refl _
  have Hb0 : Hid (Below S w1 w1) := Below.refl _ _
  clear hom hb1
  obtain ⟨U, hU⟩ : ∃ U, U = w1 := ⟨_, rfl⟩
  subst hU
  dsimp only
  go_wp2_with fail
  go_loopw [9, 11] (fun v9 i11 wr => ∃ k : Nat, i11 = .int .i64 k ∧ k ≤ ms.length ∧ Hid (OwnPr S wr v9 ((ms.take k).map (progE l self last))) ∧ Hid (Below S U wr)) (fun _ i _ => ms.length - (intOf i).toNat)
  case atStart => exact ⟨0, rfl, Nat.zero_le _, World.ownsRow_nil _ _ _ _, Hb0⟩
  case round =>
    obtain ⟨k, rfl, hk, Ho, Hb⟩ := hrel
    by_cases hlt : k < ms.length
    · obtain ⟨b, off, rfl, m0⟩ := ints_cell (Hm.out _ Hb.out) k hlt
      have Hm0 : Hid (∀ w', Below S U w' → w'.cell? ⟨b, off + k, none⟩ = some (.int .i64 ms[k])) := by
        show ∀ w', _ → _
        intro w' hw
        obtain ⟨b2, off2, he, hc2⟩ := ints_cell (Hm.out _ hw) k hlt
        injection he with he
        injection he with e1 e2
        subst e1; subst e2
        exact hc2
      have Hs := Lib.hid (map_take_snoc hlt (progE l self last))
      have hlen : ((ms.take k).map (progE l self last)).length = k := by rw [List.length_map, List.length_take]; omega
      obtain ⟨n, hn⟩ := hide ms[k]
      rw [hn.out] at m0 Hs Hm0
      obtain ⟨L, hL⟩ := hide ((ms.take k).map (progE l self last))
      rw [hL.out] at Ho Hs hlen
      have Hlen := Lib.hid (show L.length ≤ 1048576 by omega)
      obtain ⟨V, hV⟩ := hide (wr.alloc (objG ⟨n, 0, nx, 1, false, 0⟩))
      obtain ⟨C, hC⟩ := hide wr.heap.size
      have hx : V.heap[C]? = some (objG ⟨n, 0, nx, 1, false, 0⟩) := by rw [← hV.out, ← hC.out]; exact hp_at _ _ rfl
      have HbV : Hid (Below S U V) := by show Below _ _ _; rw [← hV.out]; exact Hb.out.alloc (Nat.le_trans HSw.out Hb.out.size) _
      have HSC : Hid (S ≤ C) := by show _ ≤ _; rw [← hC.out]; exact Nat.le_trans HSw.out Hb.out.size
      have HCV : Hid (C < V.heap.size) := lt_of_block hx
      obtain ⟨a9, cp9, rfl⟩ := owns_slice Ho.out
      have HoV : Hid (OwnPr S V (.slice a9 L.length cp9) L ∧ some C ≠ (Value.slice a9 L.length cp9).ownBlock) := by
        refine ⟨?_, fun e => ?_⟩
        · show World.ownsRow _ _ _ _ _ _ _; rw [← hV.out]; exact Ho.out.alloc _
        · have := (Ho.out.lt C e.symm).2
          rw [hC.out] at this
          omega
      have hk1 : k + 1 ≤ 1048577 := by omega
      have Hx := Lib.hid hx
      clear hlen hx
      go_upto_region 7 with fail
      rw [hV.out, hC.out]
      clear m0
      have n1 := Hm0.out _ HbV.out
      obtain ⟨z, hz⟩ := hide (n == self)
      have e7 := hz.out
      have Hfr : Hid (freshG self last n = if z = true then ⟨n, last, nx, 2, true, 0⟩ else ⟨n, 0, nx, 1, false, 0⟩) := by
        show _ = _; unfold freshG; rw [hz.out, Hnx.out]
      clear hz
      cases z with
      | false =>
        simp only [Bool.false_eq_true, if_false] at Hfr
        obtain ⟨p0, hp0⟩ := hide (⟨n, 0, nx, 1, false, 0⟩ : ProgP)
        have Hf : Hid (p0 = freshG self last n) := by show _ = _; rw [Hfr.out, hp0.out]
        have HX2 : Hid (V.heap[C]? = some (objG p0)) := by show _ = _; rw [← hp0.out]; exact Hx.out
        have HG2 : Hid (V.grownBy V (some C)) := ⟨rfl, rfl, rfl, Nat.le_refl _, fun _ _ _ => rfl⟩
        clear Hx Hfr hp0
        have Hp0 : Hid (p0 = progE (l.drop l.length) self last n) := by
          show _ = _
          rw [Hf.out]; unfold progE firstG; rw [List.drop_length]; rfl
        go_wp2_with fail
        clear n1
        go_loopw [13] (fun i13 wi => ∃ (j : Nat) (i : Int) (q : ProgP), i13 = .int .i64 i ∧ Hid (i = (j : Int) - 1) ∧ j ≤ l.length ∧ Hid (q = progE (l.drop j) self last n) ∧ Hid (wi.heap[C]? = some (objG q)) ∧ Hid (V.grownBy wi (some C))) (fun i _ => (intOf i + 1).toNat)
        case atStart => exact ⟨l.length, _, p0, rfl, rfl, Nat.le_refl _, Hp0, HX2, HG2⟩
        case round =>
          obtain ⟨j, i, q, rfl, Hi, hj, Hq, HX, HG⟩ := hrel
          have HbW : Hid (Below S U wr) := HbV.out.trans (grown_below HG.out HSC.out (Nat.le_trans HSC.out (Nat.le_of_lt HCV.out)))
          by_cases hj0 : 0 < j
          · obtain ⟨j', hj'⟩ : ∃ j', j = j' + 1 := ⟨j - 1, by omega⟩
            obtain rfl : i = (j' : Int) := by have := Hi.out; omega
            have hjl : j' < l.length := by omega
            obtain ⟨b', off', rfl, m0, m1, m2, m3, m4, m5⟩ := (Hh.out _ (Hg.out _ HbW.out)).six hjl
            have HD := Lib.hid (progE_drop hjl self last n)
            rw [hj'] at Hq
            have Hi2 : Hid ((j' : Int) - 1 = (j' : Int) - 1) := rfl
            obtain ⟨p, hp⟩ := hide l[j']
            rw [hp.out] at m0 m1 m2 m3 m4 m5 HD
            have n0 := Hm0.out _ HbW.out
            obtain ⟨z2, hz2⟩ := hide (p.node == n)
            have e6 := hz2.out
            rw [hz2.out] at HD
            have hjj : j' < 2932031007318 := by omega
            clear hj0 hj' hp hz2
            cases z2 with
            | false =>
              have Hq2 : Hid (q = progE (l.drop j') self last n) := by show _ = _; rw [HD.out, if_neg (by simp), Hq.out]
              go_upto_region 12 with fail
              go_region
              all_goals
                go_wp2_with fail
                go_roundw
                case rel => exact ⟨j', _, q, rfl, rfl, Nat.le_of_lt hjl, Hq2, by first | exact HX | exact HX.out, by first | exact HG | exact ⟨HG.out.os, HG.out.tape, HG.out.output, HG.out.size, HG.out.block⟩⟩
                case measure => simp [intOf]
            | true =>
              have Hq2 : Hid (p = progE (l.drop j') self last n) := by show _ = _; rw [HD.out, if_pos rfl]
              go_upto_region 12 with fail
              go_region
              all_goals
                obtain ⟨V3, hV3⟩ : ∃ V3, V3 = wr.drew := ⟨_, rfl⟩
                have hx3 : V3.heap[C]? = some (objG q) := by rw [hV3]; exact HX.out
                have hg3 : V.grownBy V3 (some C) := by rw [hV3]; exact ⟨HG.out.os, HG.out.tape, HG.out.output, HG.out.size, HG.out.block⟩
                have k0 := (by rw [hV3]; exact m0 : V3.cell? ⟨b', off' + j' * 6, none⟩ = some (.int .i64 p.node))
                have k1 := (by rw [hV3]; exact m1 : V3.cell? ⟨b', off' + j' * 6 + 1, none⟩ = some (.int .i64 p.mtch))
                have k2 := (by rw [hV3]; exact m2 : V3.cell? ⟨b', off' + j' * 6 + 2, none⟩ = some (.int .i64 p.nxt))
                have k3 := (by rw [hV3]; exact m3 : V3.cell? ⟨b', off' + j' * 6 + 3, none⟩ = some (.int .i64 p.state))
                have k4 := (by rw [hV3]; exact m4 : V3.cell? ⟨b', off' + j' * 6 + 4, none⟩ = some (.bool p.active))
                have k5 := (by rw [hV3]; exact m5 : V3.cell? ⟨b', off' + j' * 6 + 5, none⟩ = some (.int .i64 p.heard))
                have HX9 : Hid ((setAll V3 C (rowG p)).heap[C]? = some (objG p)) := setAll_at (xs := rowG q) hx3 (rowG p) rfl
                have HG9 : Hid (V.grownBy (setAll V3 C (rowG p)) (some C)) := grown_trans hg3 (setAll_grow V3 C (rowG p))
                have c0 := cell_n hx3 0 (v := .int .i64 q.node) rfl
                have c1 := cell_n hx3 1 (v := .int .i64 q.mtch) rfl
                have c2 := cell_n hx3 2 (v := .int .i64 q.nxt) rfl
                have c3 := cell_n hx3 3 (v := .int .i64 q.state) rfl
                have c4 := cell_n hx3 4 (v := .bool q.active) rfl
                have c5 := cell_n hx3 5 (v := .int .i64 q.heard) rfl
                have f0 := free_n hx3 0
                have f1 := free_n hx3 1
                have f2 := free_n hx3 2
                have f3 := free_n hx3 3
                have f4 := free_n hx3 4
                have f5 := free_n hx3 5
                rw [← hV3]
                clear hV3 m0 m1 m2 m3 m4 m5 n0
                go_upto_region 11 with fail
                change Code.wp _ _ _ _ (setAll V3 C (rowG p))
                generalize setAll V3 C (rowG p) = V9 at HX9 HG9 ⊢
                clear c0 c1 c2 c3 c4 c5 f0 f1 f2 f3 f4 f5 k0 k1 k2 k3 k4 k5 hx3 hg3
                go_wp2_with fail
                go_roundw
                case rel => exact ⟨j', _, p, rfl, rfl, Nat.le_of_lt hjl, Hq2, HX9, HG9⟩
                case measure => simp [intOf]
          · obtain rfl : i = -1 := by have := Hi.out; omega
            obtain rfl : j = 0 := by omega
            rw [List.drop_zero] at Hq
            have hx3 := HX.out
            have c0 := cell_n hx3 0 (v := .int .i64 q.node) rfl
            have c1 := cell_n hx3 1 (v := .int .i64 q.mtch) rfl
            have c2 := cell_n hx3 2 (v := .int .i64 q.nxt) rfl
            have c3 := cell_n hx3 3 (v := .int .i64 q.state) rfl
            have c4 := cell_n hx3 4 (v := .bool q.active) rfl
            have c5 := cell_n hx3 5 (v := .int .i64 q.heard) rfl
            have Ho5 : Hid (OwnPr S wr (.slice a9 L.length cp9) L) := HoV.out.1.kept HG.out (.inr (fun e => HoV.out.2 e.symm))
            have HSV : Hid (S ≤ wr.heap.size) := Nat.le_trans HSw.out HbW.out.size
            clear hj0 hx3
            go_wp2_with (at_builtin; refine wpList_push rfl _ _ 28 rfl S 27 _ 6 48 Try.underlying28 info_prg rfl (by decide) _ _ _ rfl Ho5.out _ rfl rfl (by intro u hu; simp at hu; rcases hu with rfl | rfl | rfl | rfl | rfl | rfl <;> rfl) (by have := Hlen.out; unfold maxLen; omega) (by have := Hlen.out; omega) HSV.out ?_)
            intro v' w3 ho hg
            have Ho3 : Hid (OwnPr S w3 v' ((ms.take (k + 1)).map (progE l self last))) := by
              show World.ownsRow _ _ _ _ _ _ _
              rw [Hs.out, ← Hq.out, List.flatMap_append, List.length_append]; exact ho
            have Hb3 : Hid (Below S U w3) := HbW.out.trans (below_own Ho5.out hg (Nat.le_refl _) HSV.out)
            clear ho hg c0 c1 c2 c3 c4 c5
            go_wp2_with fail
            go_roundw
            case rel => exact ⟨k + 1, by go_num, hlt, Ho3, Hb3⟩
            case measure => simp [intOf]; omega
      | true =>
        simp only [if_true] at Hfr
        obtain ⟨p0, hp0⟩ := hide (⟨n, last, nx, 2, true, 0⟩ : ProgP)
        have Hf : Hid (p0 = freshG self last n) := by show _ = _; rw [Hfr.out, hp0.out]
        have hx1 := Hx.out
        have c0 := cell_n hx1 0 (v := .int .i64 n) rfl
        have c1 := cell_n hx1 1 (v := .int .i64 0) rfl
        have c2 := cell_n hx1 2 (v := .int .i64 nx) rfl
        have c3 := cell_n hx1 3 (v := .int .i64 1) rfl
        have c4 := cell_n hx1 4 (v := .bool false) rfl
        have c5 := cell_n hx1 5 (v := .int .i64 0) rfl
        have f0 := free_n hx1 0
        have f1 := free_n hx1 1
        have f2 := free_n hx1 2
        have f3 := free_n hx1 3
        have f4 := free_n hx1 4
        have f5 := free_n hx1 5
        have HX9 : Hid ((setAll V C [.int .i64 self, .int .i64 last, .int .i64 nx, .int .i64 2, .bool true, .int .i64 0]).heap[C]? = some (objG ⟨self, last, nx, 2, true, 0⟩)) := setAll_at (xs := rowG ⟨n, 0, nx, 1, false, 0⟩) hx1 _ rfl
        have HG9 : Hid (V.grownBy (setAll V C [.int .i64 self, .int .i64 last, .int .i64 nx, .int .i64 2, .bool true, .int .i64 0]) (some C)) := setAll_grow V C _
        have Hns : Hid (n = self) := eq_of_beq e7
        go_upto_region 9 with fail
        change Code.wp _ _ _ _ (setAll V C [.int .i64 self, .int .i64 last, .int .i64 nx, .int .i64 2, .bool true, .int .i64 0])
        generalize setAll V C [.int .i64 self, .int .i64 last, .int .i64 nx, .int .i64 2, .bool true, .int .i64 0] = V2 at HX9 HG9 ⊢
        have HX2 : Hid (V2.heap[C]? = some (objG p0)) := by show _ = _; rw [← hp0.out, Hns.out]; exact HX9.out
        have HG2 : Hid (V.grownBy V2 (some C)) := HG9
        clear c0 c1 c2 c3 c4 c5 f0 f1 f2 f3 f4 f5 hx1 Hx Hfr hp0 HX9 HG9
        have Hp0 : Hid (p0 = progE (l.drop l.length) self last n) := by
          show _ = _
          rw [Hf.out]; unfold progE firstG; rw [List.drop_length]; rfl
        go_wp2_with fail
        clear n1
        go_loopw [13] (fun i13 wi => ∃ (j : Nat) (i : Int) (q : ProgP), i13 = .int .i64 i ∧ Hid (i = (j : Int) - 1) ∧ j ≤ l.length ∧ Hid (q = progE (l.drop j) self last n) ∧ Hid (wi.heap[C]? = some (objG q)) ∧ Hid (V.grownBy wi (some C))) (fun i _ => (intOf i + 1).toNat)
        case atStart => exact ⟨l.length, _, p0, rfl, rfl, Nat.le_refl _, Hp0, HX2, HG2⟩
        case round =>
          obtain ⟨j, i, q, rfl, Hi, hj, Hq, HX, HG⟩ := hrel
          have HbW : Hid (Below S U wr) := HbV.out.trans (grown_below HG.out HSC.out (Nat.le_trans HSC.out (Nat.le_of_lt HCV.out)))
          by_cases hj0 : 0 < j
          · obtain ⟨j', hj'⟩ : ∃ j', j = j' + 1 := ⟨j - 1, by omega⟩
            obtain rfl : i = (j' : Int) := by have := Hi.out; omega
            have hjl : j' < l.length := by omega
            obtain ⟨b', off', rfl, m0, m1, m2, m3, m4, m5⟩ := (Hh.out _ (Hg.out _ HbW.out)).six hjl
            have HD := Lib.hid (progE_drop hjl self last n)
            rw [hj'] at Hq
            have Hi2 : Hid ((j' : Int) - 1 = (j' : Int) - 1) := rfl
            obtain ⟨p, hp⟩ := hide l[j']
            rw [hp.out] at m0 m1 m2 m3 m4 m5 HD
            have n0 := Hm0.out _ HbW.out
            obtain ⟨z2, hz2⟩ := hide (p.node == n)
            have e6 := hz2.out
            rw [hz2.out] at HD
            have hjj : j' < 2932031007318 := by omega
            clear hj0 hj' hp hz2
            cases z2 with
            | false =>
              have Hq2 : Hid (q = progE (l.drop j') self last n) := by show _ = _; rw [HD.out, if_neg (by simp), Hq.out]
              go_upto_region 12 with fail
              go_region
              all_goals
                go_wp2_with fail
                go_roundw
                case rel => exact ⟨j', _, q, rfl, rfl, Nat.le_of_lt hjl, Hq2, by first | exact HX | exact HX.out, by first | exact HG | exact ⟨HG.out.os, HG.out.tape, HG.out.output, HG.out.size, HG.out.block⟩⟩
                case measure => simp [intOf]
            | true =>
              have Hq2 : Hid (p = progE (l.drop j') self last n) := by show _ = _; rw [HD.out, if_pos rfl]
              go_upto_region 12 with fail
              go_region
              all_goals
                obtain ⟨V3, hV3⟩ : ∃ V3, V3 = wr.drew := ⟨_, rfl⟩
                have hx3 : V3.heap[C]? = some (objG q) := by rw [hV3]; exact HX.out
                have hg3 : V.grownBy V3 (some C) := by rw [hV3]; exact ⟨HG.out.os, HG.out.tape, HG.out.output, HG.out.size, HG.out.block⟩
                have k0 := (by rw [hV3]; exact m0 : V3.cell? ⟨b', off' + j' * 6, none⟩ = some (.int .i64 p.node))
                have k1 := (by rw [hV3]; exact m1 : V3.cell? ⟨b', off' + j' * 6 + 1, none⟩ = some (.int .i64 p.mtch))
                have k2 := (by rw [hV3]; exact m2 : V3.cell? ⟨b', off' + j' * 6 + 2, none⟩ = some (.int .i64 p.nxt))
                have k3 := (by rw [hV3]; exact m3 : V3.cell? ⟨b', off' + j' * 6 + 3, none⟩ = some (.int .i64 p.state))
                have k4 := (by rw [hV3]; exact m4 : V3.cell? ⟨b', off' + j' * 6 + 4, none⟩ = some (.bool p.active))
                have k5 := (by rw [hV3]; exact m5 : V3.cell? ⟨b', off' + j' * 6 + 5, none⟩ = some (.int .i64 p.heard))
                have HX9 : Hid ((setAll V3 C (rowG p)).heap[C]? = some (objG p)) := setAll_at (xs := rowG q) hx3 (rowG p) rfl
                have HG9 : Hid (V.grownBy (setAll V3 C (rowG p)) (some C)) := grown_trans hg3 (setAll_grow V3 C (rowG p))
                have c0 := cell_n hx3 0 (v := .int .i64 q.node) rfl
                have c1 := cell_n hx3 1 (v := .int .i64 q.mtch) rfl
                have c2 := cell_n hx3 2 (v := .int .i64 q.nxt) rfl
                have c3 := cell_n hx3 3 (v := .int .i64 q.state) rfl
                have c4 := cell_n hx3 4 (v := .bool q.active) rfl
                have c5 := cell_n hx3 5 (v := .int .i64 q.heard) rfl
                have f0 := free_n hx3 0
                have f1 := free_n hx3 1
                have f2 := free_n hx3 2
                have f3 := free_n hx3 3
                have f4 := free_n hx3 4
                have f5 := free_n hx3 5
                rw [← hV3]
                clear hV3 m0 m1 m2 m3 m4 m5 n0
                go_upto_region 11 with fail
                change Code.wp _ _ _ _ (setAll V3 C (rowG p))
                generalize setAll V3 C (rowG p) = V9 at HX9 HG9 ⊢
                clear c0 c1 c2 c3 c4 c5 f0 f1 f2 f3 f4 f5 k0 k1 k2 k3 k4 k5 hx3 hg3
                go_wp2_with fail
                go_roundw
                case rel => exact ⟨j', _, p, rfl, rfl, Nat.le_of_lt hjl, Hq2, HX9, HG9⟩
                case measure => simp [intOf]
          · obtain rfl : i = -1 := by have := Hi.out; omega
            obtain rfl : j = 0 := by omega
            rw [List.drop_zero] at Hq
            have hx3 := HX.out
            have c0 := cell_n hx3 0 (v := .int .i64 q.node) rfl
            have c1 := cell_n hx3 1 (v := .int .i64 q.mtch) rfl
            have c2 := cell_n hx3 2 (v := .int .i64 q.nxt) rfl
            have c3 := cell_n hx3 3 (v := .int .i64 q.state) rfl
            have c4 := cell_n hx3 4 (v := .bool q.active) rfl
            have c5 := cell_n hx3 5 (v := .int .i64 q.heard) rfl
            have Ho5 : Hid (OwnPr S wr (.slice a9 L.length cp9) L) := HoV.out.1.kept HG.out (.inr (fun e => HoV.out.2 e.symm))
            have HSV : Hid (S ≤ wr.heap.size) := Nat.le_trans HSw.out HbW.out.size
            clear hj0 hx3
            go_wp2_with (at_builtin; refine wpList_push rfl _ _ 28 rfl S 27 _ 6 48 Try.underlying28 info_prg rfl (by decide) _ _ _ rfl Ho5.out _ rfl rfl (by intro u hu; simp at hu; rcases hu with rfl | rfl | rfl | rfl | rfl | rfl <;> rfl) (by have := Hlen.out; unfold maxLen; omega) (by have := Hlen.out; omega) HSV.out ?_)
            intro v' w3 ho hg
            have Ho3 : Hid (OwnPr S w3 v' ((ms.take (k + 1)).map (progE l self last))) := by
              show World.ownsRow _ _ _ _ _ _ _
              rw [Hs.out, ← Hq.out, List.flatMap_append, List.length_append]; exact ho
            have Hb3 : Hid (Below S U w3) := HbW.out.trans (below_own Ho5.out hg (Nat.le_refl _) HSV.out)
            clear ho hg c0 c1 c2 c3 c4 c5
            go_wp2_with fail
            go_roundw
            case rel => exact ⟨k + 1, by go_num, hlt, Ho3, Hb3⟩
            case measure => simp [intOf]; omega
    · have Hp : Hid (post (.returned u9) wr) := by
        show post _ _
        rw [← HP.out]
        have := Ho.out
        rw [List.take_of_length_le (by omega)] at this
        exact ⟨_, rfl, own_base this HBS.out, HWw.out _ (Hg.out _ Hb.out)⟩
      have t0 : decide (k < ms.length) = false := decide_eq_false hlt
      clear hlt
      go_wp2_with fail
      first | exact Hp.out | (go_ret; exact Hp.out)
end Go.Proofs.Ytgdmcbjlfnjhjaa
