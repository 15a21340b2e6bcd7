/-
  A log that the law hands in; whether it was left alone; writing over entries.
-/
import Derived.Test.YtgdmcbjlfnjhjaaLc
namespace Go.Proofs.Ytgdmcbjlfnjhjaa
open Go.RowKit Wm Mm Lg
set_option linter.unusedVariables false
set_option linter.unusedSimpArgs false

set_option maxHeartbeats 1000000 in
theorem law_logOf (base bt : Int) (ev : Value) (es : List EntP) (F : Nat → Prop) (w : World) (h : Ents F w ev es) (hn : es.length ≤ 3518437208800) :
    Calls Try.prog 29 #[vLog base bt ev] w fun e w' => ∃ ao' cap', e = .returned (vLog base bt (.slice ao' es.length cap')) ∧ w'.ownsRow w.heap.size 30 4 (.slice ao' (es.length + 1) cap') (es.length + 1) ((es ++ [e99]).flatMap rowE) ∧ Below w.heap.size w w' := by
  obtain ⟨post, HP⟩ := hide (fun (e : Ending) (w' : World) => ∃ ao' cap', e = .returned (vLog base bt (.slice ao' es.length cap')) ∧ w'.ownsRow w.heap.size 30 4 (.slice ao' (es.length + 1) cap') (es.length + 1) ((es ++ [e99]).flatMap rowE) ∧ Below w.heap.size w w')
  rw [HP.out]
  obtain ⟨ao, cap, rfl, hcap, hmax⟩ := h.slice
  obtain ⟨W, hW⟩ := hide ((w.alloc (.cells (oLog base bt (.slice ao es.length cap)) 33)).alloc (.cells (oLog 0 0 (.slice none 0 0)) 33))
  obtain ⟨B, hB⟩ := hide w.heap.size
  have hc : W.heap[B]? = some (.cells (oLog base bt (.slice ao es.length cap)) 33 (0, 0)) := by rw [← hW.out, ← hB.out]; exact (hp_past _ _ (by simp)).trans (hp_at _ _ rfl)
  have hd : W.heap[B + 1]? = some (.cells (oLog 0 0 (.slice none 0 0)) 33 (0, 0)) := by rw [← hW.out, ← hB.out]; exact hp_at _ _ (by simp)
  have hb0 : Below B w W := by rw [← hW.out, ← hB.out]; exact ((Below.refl _ _).alloc (Nat.le_refl _) _).alloc (by simp) _
  have hsz : W.heap.size = B + 2 := by rw [← hW.out, ← hB.out]; simp
  have h2 := h.frame (Plain.good _) (Agree.below (hB.out ▸ hb0))
  have K := Lib.hid (law_entries' _ es F W h2 hn)
  have c2 := cell_n hc 2 (v := .slice ao es.length cap) rfl
  have Hc := Lib.hid hc
  have Hd := Lib.hid hd
  have Hb0 := Lib.hid hb0
  have Hsz := Lib.hid hsz
  clear hc hd hb0 hsz h h2 hn hmax
  go_enter Try.func29, Try.ntmps29
  go_upto_region 1 with fail
  rw [hW.out, hB.out]
  go_wp2_with fail
  refine K.out.mono ?_
  rintro e w1 ⟨ao', cap', rfl, ho, hb⟩
  have hc1 := (hb.block _ (lt_of_block Hc.out)).trans Hc.out
  have hd1 := (hb.block _ (lt_of_block Hd.out)).trans Hd.out
  have hb1 : Below B w w1 := Hb0.out.trans (hb.mono (by rw [Hsz.out]; omega))
  clear c2
  have c2 := cell_n hc1 2 (v := .slice ao es.length cap) rfl
  have f2 := free_n hc1 2
  have hc2 : (w1.setCell ⟨B, 2, none⟩ (.slice ao' es.length cap')).heap[B]? = some (.cells (oLog base bt (.slice ao' es.length cap')) 33 (0, 0)) := by rw [heap_setCell, if_pos rfl, hc1]; simp [storeIn]
  have hd2 : (w1.setCell ⟨B, 2, none⟩ (.slice ao' es.length cap')).heap[B + 1]? = some (.cells (oLog 0 0 (.slice none 0 0)) 33 (0, 0)) := hp_set_other hd1 (by simp)
  have hb2 := hb1.setCell (p := ⟨B, 2, none⟩) (Nat.le_refl _) (.slice ao' es.length cap')
  have ho2 : ((w1.setCell ⟨B, 2, none⟩ (.slice ao' es.length cap')).ownsRow (B + 2) 30 4 (.slice ao' (es.length + 1) cap') (es.length + 1) ((es ++ [e99]).flatMap rowE)) := by
    rw [← Hsz.out]; exact own_up ho (Up.setCell W.heap.size w1 (a := ⟨B, 2, none⟩) (by rw [Hsz.out]; simp) _) (Nat.le_refl _)
  obtain ⟨W2, hW2⟩ := hide (w1.setCell ⟨B, 2, none⟩ (.slice ao' es.length cap'))
  rw [hW2.out] at hc2 hd2 hb2 ho2
  have Hc2 := Lib.hid hc2
  have Hd2 := Lib.hid hd2
  have Hb2 := Lib.hid hb2
  have Ho2 := Lib.hid ho2
  clear hc1 hd1 hb1 hb hc2 hd2 hb2 ho2 ho
  go_upto_region 2 with fail
  rw [hW2.out]
  clear c2 f2
  have c0 := cell_n Hc2.out 0 (v := .int .i64 base) rfl
  have c1 := cell_n Hc2.out 1 (v := .int .i64 bt) rfl
  have c2 := cell_n Hc2.out 2 (v := .slice ao' es.length cap') rfl
  have d0 := cell_n Hd2.out 0 (v := .int .i64 0) rfl
  have d1 := cell_n Hd2.out 1 (v := .int .i64 0) rfl
  have d2 := cell_n Hd2.out 2 (v := .slice none 0 0) rfl
  have g0 := free_n Hd2.out 0
  have g1 := free_n Hd2.out 1
  have g2 := free_n Hd2.out 2
  have HE := Lib.hid (setAll_at (xs := [.int .i64 0, .int .i64 0, .slice none 0 0]) Hd2.out [.int .i64 base, .int .i64 bt, .slice ao' es.length cap'] rfl)
  have HB := Lib.hid (setAll_below Hb2.out (Nat.le_succ B) [.int .i64 base, .int .i64 bt, .slice ao' es.length cap'])
  have HO : Hid (((setAll W2 (B + 1) [.int .i64 base, .int .i64 bt, .slice ao' es.length cap']).ownsRow (B + 2) 30 4 (.slice ao' (es.length + 1) cap') (es.length + 1) ((es ++ [e99]).flatMap rowE))) := own_up Ho2.out (Up.setAll _ W2 (by omega) _) (Nat.le_refl _)
  go_wp2_with fail
  change bodyPost _ _ _ Exit.ret _ (setAll W2 (B + 1) [.int .i64 base, .int .i64 bt, .slice ao' es.length cap'])
  generalize setAll W2 (B + 1) [.int .i64 base, .int .i64 bt, .slice ao' es.length cap'] = W5 at HE HB HO ⊢
  clear c0 c1 c2 d0 d1 d2 g0 g1 g2
  have c0 := cell_n HE.out 0 (v := .int .i64 base) rfl
  have c1 := cell_n HE.out 1 (v := .int .i64 bt) rfl
  have c2 := cell_n HE.out 2 (v := .slice ao' es.length cap') rfl
  refine bodyPost_ret (by simp [results, Try.results29, go_sem, c0, c1, c2]; rfl) rfl ?_
  rw [← HP.out]
  exact ⟨_, _, rfl, own_base HO.out (by rw [hB.out]; omega), by rw [hB.out]; exact HB.out⟩


set_option maxHeartbeats 1000000 in
theorem law_heldEntries (ao : Option Addr) (cap : Nat) (v2 : Value) (es : List EntP) (F G : Nat → Prop) (w : World) (h : Ents F w (.slice ao (es.length + 1) cap) (es ++ [e99])) (h2 : Ents G w v2 es) :
    Calls Try.prog 36 #[.slice ao es.length cap, v2] w fun e w' => e = .returned (.bool true) ∧ Below w.heap.size w w' := by
  have hcap : es.length + 1 ≤ cap ∧ es.length + 1 ≤ 9223372036854775807 := by
    obtain ⟨a, c, he, h3, h4⟩ := h.slice
    injection he with e1 e2 e3
    simp at h3 h4
    omega
  have ht : Ents F w (.slice ao es.length cap) es := by
    have := h.take (k := es.length) (by simp)
    simpa using this
  have K := Lib.hid (ref_sameEntries _ _ es F G w ht h2)
  have HF : Hid (∀ w', Below w.heap.size w w' → Ents F w' (.slice ao (es.length + 1) cap) (es ++ [e99])) := fun w' hb => h.frame (Plain.good _) (Agree.below hb)
  obtain ⟨ao2, cap2, rfl, _, _⟩ := h2.slice
  obtain ⟨hc1, hc2⟩ := hcap
  clear h h2 ht
  go_enter Try.func36, Try.ntmps36
  go_wp2_with fail
  refine K.out.mono ?_
  rintro e w1 ⟨rfl, hb⟩
  obtain ⟨b, off, us, rfl, _, _, hus, hcs⟩ := (HF.out _ hb).at (k := es.length) (by simp)
  have e1 : us = rowE e99 := by
    have : us = rowE (es ++ [e99])[es.length] := hus
    simpa using this
  subst e1
  have d0 := hcs 0 _ rfl
  rw [Nat.add_zero] at d0
  have p1 : (es.length : Int) < ((es.length + 1 : Nat) : Int) := by omega
  have Hb := Lib.hid hb
  clear hcs hus hb
  go_wp2_with fail
  go_ret
  exact ⟨rfl, Hb.out⟩

theorem own_put {w : World} {S : Nat} {e : TypeId} {size n g cap : Nat} {xs : List Value} (h : w.ownsRow S e size (.slice (some ⟨g, 0, none⟩) n cap) n xs) (i : Nat) (u : Value) : (w.setCell ⟨g, i, none⟩ u).ownsRow S e size (.slice (some ⟨g, 0, none⟩) n cap) n (xs.set i u) := by
  refine ⟨by rw [List.length_set]; exact h.1, ?_⟩
  rcases h.2 with ⟨hv, _⟩ | ⟨g', cap', cur, hv, hb, hg, hn, hc, hs, ht⟩
  · cases hv
  · injection hv with e1 e2 e3
    injection e1 with e1
    injection e1 with e1
    subst e1 e3
    refine Or.inr ⟨g, _, cur.setIfInBounds i u, rfl, hb, by rw [heap_setCell, if_pos rfl, hg]; simp [storeIn], hn, hc, by simpa using hs, ?_⟩
    rw [Array.toList_setIfInBounds, List.take_set, ht]
theorem own_free {w : World} {S : Nat} {e : TypeId} {size n g cap : Nat} {xs : List Value} (h : w.ownsRow S e size (.slice (some ⟨g, 0, none⟩) n cap) n xs) (i : Nat) : w.frozen? ⟨g, i, none⟩ = false := by
  rcases h.2 with ⟨hv, _⟩ | ⟨g', cap', cur, hv, hb, hg, hn, hc, hs, ht⟩
  · cases hv
  · injection hv with e1 e2 e3
    injection e1 with e1
    injection e1 with e1
    subst e1
    exact free_n hg i
theorem own_cell {w : World} {S : Nat} {e : TypeId} {size n g cap : Nat} {xs : List Value} (h : w.ownsRow S e size (.slice (some ⟨g, 0, none⟩) n cap) n xs) {i : Nat} {u : Value} (hu : xs[i]? = some u) : w.cell? ⟨g, i, none⟩ = some u := by
  have := h.cells (g := g) rfl i u hu
  have hadd : (⟨g, 0, none⟩ : Addr).add i = ⟨g, i, none⟩ := by unfold Addr.add; split <;> simp_all
  rwa [hadd] at this
theorem own_lt {w : World} {S : Nat} {e : TypeId} {size n g cap : Nat} {xs : List Value} (h : w.ownsRow S e size (.slice (some ⟨g, 0, none⟩) n cap) n xs) : n ≤ cap ∧ cap ≤ 9223372036854775807 ∧ S ≤ g ∧ g < w.heap.size := by
  rcases h.2 with ⟨hv, _⟩ | ⟨g', cap', cur, hv, hb, hg, hn, hc, hs, ht⟩
  · cases hv
  · injection hv with e1 e2 e3
    injection e1 with e1
    injection e1 with e1
    subst e1 e3
    exact ⟨hn, by unfold maxLen at hc; omega, hb, lt_of_block hg⟩

end Go.Proofs.Ytgdmcbjlfnjhjaa
