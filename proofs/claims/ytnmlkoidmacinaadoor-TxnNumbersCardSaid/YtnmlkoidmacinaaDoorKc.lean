/-
  Pairs: what slices.Delete and slices.Insert leave, in place or in a new row.
-/
import Derived.Test.YtnmlkoidmacinaaDoorKb
namespace Go.Proofs.YtnmlkoidmacinaaDoor
open Go.RowKit Wm Mm Dg Kv
set_option linter.unusedVariables false
set_option linter.unusedSimpArgs false

theorem row_part {α : Type} {size : Nat} {row : α → List Value} {F : Nat → Prop} {w : World} {ao : Option Addr} {cap p n : Nat} {L : List α} (h : Sl size (Plain row) F w (.slice ao L.length cap) L) (hp : p + n ≤ L.length) :
    ∃ av, Sl size (Plain row) F w (.slice av n (cap - p)) ((L.drop p).take n) ∧ ((ao = none ∧ av = none ∧ L = [] ∧ cap = 0 ∧ p = 0 ∧ n = 0) ∨ ∃ a, ao = some a ∧ ((cap = p ∧ n = 0 ∧ av = some a) ∨ (cap ≠ p ∧ av = some (a.add (p * size))))) := by
  have hdl : (L.drop p).length = L.length - p := List.length_drop
  have hnl : ((L.drop p).take n).length = n := by rw [List.length_take, hdl]; omega
  obtain ⟨_, _, he, hcap, hmax⟩ := h.slice
  injection he with e1 e2 e3
  subst e1
  subst e3
  have hemp : ∀ (av : Option Addr) (c : Nat), (av = none → c = 0) → n = 0 → Sl size (Plain row) F w (.slice av n c) ((L.drop p).take n) := by
    intro av c hz hn
    subst hn
    exact ⟨av, c, by rw [hnl], ⟨by rw [hnl]; omega, fun h => hz h⟩, by rw [hnl]; omega, fun h => absurd rfl h⟩
  cases ao with
  | none =>
    obtain ⟨rfl, rfl⟩ := h.isNil
    have h0 : p = 0 := by simp at hp; omega
    have h1 : n = 0 := by simp at hp; omega
    exact ⟨none, hemp _ _ (fun _ => by omega) h1, Or.inl ⟨rfl, rfl, rfl, rfl, h0, h1⟩⟩
  | some a =>
    by_cases hcm : cap = p
    · have h1 : n = 0 := by omega
      exact ⟨some a, hemp _ _ (fun h => by cases h) h1, Or.inr ⟨a, rfl, Or.inl ⟨hcm, h1, rfl⟩⟩⟩
    · by_cases h0 : 0 < L.length
      · obtain ⟨b, off, e, _, _⟩ := h.all h0
        injection e with e
        subst e
        have hadd : (⟨b, off, none⟩ : Addr).add (p * size) = ⟨b, off + p * size, none⟩ := by unfold Addr.add; split <;> simp_all
        have hq := Sl.drop h (k := p) (by omega)
        rw [← hdl] at hq
        have hq2 := hq.take (k := n) (by omega)
        exact ⟨_, hq2, Or.inr ⟨_, rfl, Or.inr ⟨hcm, by rw [hadd]⟩⟩⟩
      · exact ⟨some (a.add (p * size)), hemp _ _ (fun h => by cases h) (by omega), Or.inr ⟨a, rfl, Or.inr ⟨hcm, rfl⟩⟩⟩


theorem grown_drewK (w : World) (r : Option Nat) : w.grownBy w.drew r := ⟨rfl, rfl, rfl, Nat.le_refl _, fun _ _ _ => rfl⟩
theorem grown_drewN (w : World) (n : Nat) (r : Option Nat) : w.grownBy (w.drewN n) r := ⟨rfl, rfl, rfl, Nat.le_refl _, fun _ _ _ => rfl⟩
set_option maxHeartbeats 2000000 in
theorem delete_law (S g n cap k : Nat) (l : List PairP) (w : World) (h : w.ownsRow S 25 3 (.slice (some ⟨g, 0, none⟩) n cap) n (l.flatMap rowPair)) (hl : n = l.length) (hk : k < n) (hS : S ≤ w.heap.size) (hn : n ≤ 3298534883000) :
    Calls Tryd.prog 55 #[.slice (some ⟨g, 0, none⟩) n cap, .int .i64 k, .int .i64 ((k : Int) + 1)] w fun e w' => ∃ v', e = .returned v' ∧ OwnP S w' v' (l.eraseIdx k) ∧ w.grownBy w' (some g) ∧ v'.ownBlock = some g := by
  obtain ⟨post, HP⟩ := hide (fun (e : Ending) (w' : World) => ∃ v', e = .returned v' ∧ OwnP S w' v' (l.eraseIdx k) ∧ w.grownBy w' (some g) ∧ v'.ownBlock = some g)
  rw [HP.out]
  obtain ⟨hnc, hcm, hSg, hgw⟩ := own_lt h
  have Hl := Lib.hid hl
  have Ho := Lib.hid h
  have HSg := Lib.hid hSg
  have HSw := Lib.hid hS
  have hfl : OwnP S w (.slice (some ⟨g, 0, none⟩) l.length cap) l := by show w.ownsRow _ _ _ _ _ _; rw [← hl]; exact h
  obtain ⟨m, hm⟩ : ∃ m, m = n - (k + 1) := ⟨_, rfl⟩
  obtain ⟨av, hpa, hav⟩ := row_part (OwnP.prs hfl) (p := k + 1) (n := m) (by omega)
  have hdm : (l.drop (k + 1)).take m = l.drop (k + 1) := List.take_of_length_le (by rw [List.length_drop]; omega)
  have hdl : (l.drop (k + 1)).length = m := by rw [List.length_drop]; omega
  rw [hdm, ← hdl] at hpa
  have hs := src_sl (P := Tryd.prog) (tx := 22) rowPair Tryd.underlying22 (by decide) rowPair_len rowPair_one (hpa.frame (Plain.good _) (Agree.drew _ w))
  rw [hdl] at hs
  have Hs := Lib.hid hs
  have HoT := Lib.hid (World.ownsRow.drew (own_take h (k := k) (by omega)))
  have Hm := Lib.hid hm
  have Hdl := Lib.hid hdl
  have hav2 : (cap = k + 1 ∧ av = some ⟨g, 0, none⟩) ∨ (cap ≠ k + 1 ∧ av = some ((⟨g, 0, none⟩ : Addr).add ((k + 1) * 3))) := by
    rcases hav with ⟨e, _⟩ | ⟨a, e, ⟨h1, _, h3⟩ | ⟨h1, h3⟩⟩
    · cases e
    · injection e with e; subst e; exact Or.inl ⟨h1, h3⟩
    · injection e with e; subst e; exact Or.inr ⟨h1, h3⟩
  have Hav := Lib.hid hav2
  obtain ⟨q, hq⟩ : ∃ q, q = k + m := ⟨_, rfl⟩
  have Hq := Lib.hid hq
  clear h hl hS hSg hgw hfl hpa hav hdm hdl hs hm hav2 hq
  have t0 : ((k : Int) == (k : Int) + 1) = false := beq_eq_false_iff_ne.2 (by omega)
  have p1 : (k : Int) ≤ (k : Int) + 1 := by omega
  have p2 : (k : Int) + 1 ≤ (n : Int) := by omega
  have p3 : (n : Int) ≤ (cap : Int) := by omega
  have p4 : ¬ n = k := by omega
  have p5 : ((k : Int) + 1).toNat = k + 1 := by omega
  go_enter Tryd.func55, Tryd.ntmps55
  go_upto_region 5 with fail
  go_cut [0] (fun s wx => s = .slice (some ⟨g, 0, none⟩) q cap ∧ Hid (wx.ownsRow S 25 3 (.slice (some ⟨g, 0, none⟩) q cap) q ((l.eraseIdx k).flatMap rowPair)) ∧ Hid (w.grownBy wx (some g)))
  case first =>
    have hm1 : n - (k + 1) = m := Hm.out.symm
    have p6 : k ≤ cap := by omega
    have p7 : (k : Int) ≤ (cap : Int) := by omega
    have p0 : (0 : Int) ≤ (k : Int) + 1 := by omega
    have HR : Hid (k + m ≤ cap) := by show _ ≤ _; have := Hm.out; omega
    have He : Hid ((l.take k).flatMap rowPair ++ (l.drop (k + 1)).flatMap rowPair = (l.eraseIdx k).flatMap rowPair) := by show _ = _; rw [List.eraseIdx_eq_take_drop_succ, List.flatMap_append]
    have HoT2 : Hid (w.drew.ownsRow S 25 3 (.slice (some ⟨g, 0, none⟩) k cap) k ((l.take k).flatMap rowPair)) := by
      show World.ownsRow _ _ _ _ _ _ _
      rw [← flat_take3]
      exact HoT.out
    rcases Hav.out with ⟨e4, e2⟩ | ⟨e4, e2⟩
    · subst e2 e4
      rw [Nat.sub_self] at Hs
      go_region_law (refine step_append_fit (by rfl) _ _ 22 22 (by rfl) S 25 _ 3 40 Tryd.underlying22 info_pairK g k (k + 1) _ (by rfl) HoT2.out _ m _ (by rfl) Hs.out HR.out ?_; intro w9 ho9 hg9; have Ho9 := Lib.hid ho9; have Hb9 : Hid (w.grownBy w9 (some g)) := grown_trans (grown_drewK w _) hg9; clear ho9 hg9)
      all_goals
        go_wp2_with fail
        go_meet
        refine ⟨by rw [Hq.out], ?_, Hb9⟩
        show w9.ownsRow _ _ _ _ _ _
        rw [Hq.out, ← He.out]
        exact Ho9.out
    · have e3 : (⟨g, 0, none⟩ : Addr).add ((k + 1) * 3) = ⟨g, (k + 1) * 3, none⟩ := by unfold Addr.add; split <;> simp_all
      rw [e3] at e2
      subst e2
      go_region_law (refine step_append_fit (by rfl) _ _ 22 22 (by rfl) S 25 _ 3 40 Tryd.underlying22 info_pairK g k cap _ (by rfl) HoT2.out _ m _ (by rfl) Hs.out HR.out ?_; intro w9 ho9 hg9; have Ho9 := Lib.hid ho9; have Hb9 : Hid (w.grownBy w9 (some g)) := grown_trans (grown_drewK w _) hg9; clear ho9 hg9)
      all_goals
        go_wp2_with fail
        go_meet
        refine ⟨by rw [Hq.out], ?_, Hb9⟩
        show w9.ownsRow _ _ _ _ _ _
        rw [Hq.out, ← He.out]
        exact Ho9.out
  case rest =>
    obtain ⟨rfl, hoq, hbq⟩ := hcut
    have hqn : q + 1 = n := by have := Hq.out; have := Hm.out; omega
    obtain ⟨w3, hcr, ho3, hb3⟩ := own_clear_g (P := Tryd.prog) (t := 22) (cnt := 1) hoq.out Tryd.underlying22 zero_pair rfl (by intro u hu; simp [Value.cells] at hu; rcases hu with rfl | rfl <;> rfl) (Nat.le_refl q) (by decide) (by omega) (Nat.le_trans HSw.out hbq.out.size) (cap - q)
    have HqL : Hid ((l.eraseIdx k).length = q) := by
      show _ = _
      rw [List.length_eraseIdx, if_pos (by rw [← Hl.out]; omega), ← Hl.out]
      omega
    have Ho3 : Hid (OwnP S w3 (.slice (some ⟨g, 0, none⟩) q cap) (l.eraseIdx k)) := by
      show w3.ownsRow _ _ _ _ _ _
      rw [HqL.out]
      have e : ((l.eraseIdx k).flatMap rowPair).take (q * 3) = (l.eraseIdx k).flatMap rowPair := List.take_of_length_le (by rw [flat_len rowPair rowPair_len, HqL.out]; exact Nat.le_refl _)
      rw [e] at ho3
      exact ho3
    have Hb3 : Hid (w.grownBy w3 (some g)) := grown_trans hbq.out hb3
    have c1 : ¬ cap = q := by omega
    have c2 : (q : Int) ≤ (n : Int) := by omega
    have c3 : n - q = 1 := by omega
    have c4 : q ≤ cap := by omega
    clear ho3 hb3 hoq
    go_wp2_with fail
    rw [← HP.out]
    exact ⟨_, rfl, Ho3.out, Hb3.out, rfl⟩
end Go.Proofs.YtnmlkoidmacinaaDoor
