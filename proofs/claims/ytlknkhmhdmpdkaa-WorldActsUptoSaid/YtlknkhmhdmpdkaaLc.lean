/-
  Copies of entries and of logs; comparing them; writing over them.
-/
import Derived.Test.YtlknkhmhdmpdkaaRb
namespace Go.Proofs.Ytlknkhmhdmpdkaa
open Go.RowKit Wm Mm Lg
set_option linter.unusedVariables false
set_option linter.unusedSimpArgs false

theorem info_ent : (Try.prog.info? 56).map (fun i => (i.zero, i.size, i.bytes)) = some (some (.agg #[.int .i64 0, .int .i64 0, .int .i64 0, .string ByteArray.empty]), 4, 40) := by kernel_rfl
theorem rowE_len (e : EntP) : (rowE e).length = 4 := rfl
theorem rowE_one (e : EntP) : ∀ u ∈ rowE e, u.oneCell' = true := by intro u hu; simp at hu; rcases hu with rfl | rfl | rfl | rfl <;> rfl
abbrev OwnE (S : Nat) (w : World) (v : Value) (l : List EntP) : Prop := w.ownsRow S 56 4 v l.length (l.flatMap rowE)
theorem OwnE.ents {S : Nat} {w : World} {v : Value} {l : List EntP} (h : OwnE S w v l) : Ents (fun k => S ≤ k) w v l := Sl.own rowE rowE_len h (fun _ _ => rfl) (fun _ _ h _ => h)

set_option maxHeartbeats 1000000 in
theorem clone_ents (ev : Value) (es : List EntP) (F : Nat → Prop) (w : World) (h : Ents F w ev es) (hn : es.length ≤ 3518437208800) :
    Calls Try.prog 118 #[ev] w fun e w' => ∃ v', e = .returned v' ∧ OwnE w.heap.size w' v' es ∧ Below w.heap.size w w' := by
  obtain ⟨post, HP⟩ := hide (fun (e : Ending) (w' : World) => ∃ v', e = .returned v' ∧ OwnE w.heap.size w' v' es ∧ Below w.heap.size w w')
  rw [HP.out]
  obtain ⟨ao, cap, rfl, hcap, hmax⟩ := h.slice
  have keq := fun (w : World) (a : Option Addr) (n c : Nat) => Lib.run_eql_slice_nil (P := Try.prog) w 50 56 a n c 0 0 Try.underlying50
  have Hn := Lib.hid hn
  clear hn hmax
  cases ao with
  | none =>
    obtain ⟨rfl, rfl⟩ := h.isNil
    clear h
    go_enter Try.func118, Try.ntmps118
    go_wp2_with fail
    rw [← HP.out]
    exact ⟨_, rfl, World.ownsRow_nil _ _ _ _, Below.refl _ _⟩
  | some a =>
    have hsrc := src_sl (P := Try.prog) (tx := 50) rowE Try.underlying50 (by decide) rowE_len rowE_one (h.frame (Plain.good _) (Agree.alloc F w (.cells #[] 56)))
    have Hs := Lib.hid hsrc
    have Ho := Lib.hid (own_empty w 56 4)
    clear h hsrc
    go_enter Try.func118, Try.ntmps118
    go_wp2_with (at_builtin; refine wpList_append_src rfl _ _ 50 50 rfl w.heap.size 56 _ 4 40 Try.underlying50 info_ent rfl _ _ _ rfl Ho.out _ _ _ rfl Hs.out (by have := Hn.out; unfold maxLen; omega) (by have := Hn.out; omega) (by simp) ?_)
    intro v' w2 ho hg
    go_wp2_with fail
    rw [← HP.out]
    refine ⟨_, rfl, ho, ?_⟩
    exact ((Below.refl w.heap.size w).alloc (Nat.le_refl _) (.cells #[] 56)).trans (grown_below hg (Nat.le_refl _) (by simp))

set_option maxHeartbeats 1000000 in
theorem clone_log (base bt : Int) (ev : Value) (es : List EntP) (F : Nat → Prop) (w : World) (h : Ents F w ev es) (hn : es.length ≤ 3518437208800) :
    Calls Try.prog 112 #[vLog base bt ev] w fun e w' => ∃ v', e = .returned (vLog base bt v') ∧ OwnE w.heap.size w' v' es ∧ Below w.heap.size w w' := by
  obtain ⟨post, HP⟩ := hide (fun (e : Ending) (w' : World) => ∃ v', e = .returned (vLog base bt v') ∧ OwnE w.heap.size w' v' es ∧ Below w.heap.size w w')
  rw [HP.out]
  obtain ⟨ao, cap, rfl, hcap, hmax⟩ := h.slice
  obtain ⟨W, hW⟩ := hide ((w.alloc (.cells (oLog base bt (.slice ao es.length cap)) 52)).alloc (.cells (oLog 0 0 (.slice none 0 0)) 52))
  obtain ⟨B, hB⟩ := hide w.heap.size
  have hc : W.heap[B]? = some (.cells (oLog base bt (.slice ao es.length cap)) 52 (0, 0)) := by rw [← hW.out, ← hB.out]; exact (hp_past _ _ (by simp)).trans (hp_at _ _ rfl)
  have hd : W.heap[B + 1]? = some (.cells (oLog 0 0 (.slice none 0 0)) 52 (0, 0)) := by rw [← hW.out, ← hB.out]; exact hp_at _ _ (by simp)
  have hb0 : Below B w W := by rw [← hW.out, ← hB.out]; exact ((Below.refl _ _).alloc (Nat.le_refl _) _).alloc (by simp) _
  have hsz : W.heap.size = B + 2 := by rw [← hW.out, ← hB.out]; simp
  have h2 := h.frame (Plain.good _) (Agree.below (hB.out ▸ hb0))
  have K := Lib.hid (clone_ents _ es F W h2 hn)
  have c2 := cell_n hc 2 (v := .slice ao es.length cap) rfl
  have Hc := Lib.hid hc
  have Hd := Lib.hid hd
  have Hb0 := Lib.hid hb0
  have Hsz := Lib.hid hsz
  clear hc hd hb0 hsz h h2 hn hmax
  go_enter Try.func112, Try.ntmps112
  go_upto_region 1 with fail
  rw [hW.out, hB.out]
  go_wp2_with fail
  refine K.out.mono ?_
  rintro e w1 ⟨v', rfl, ho, hb⟩
  obtain ⟨ao', cap', rfl⟩ := owns_slice ho
  have hc1 := (hb.block _ (lt_of_block Hc.out)).trans Hc.out
  have hd1 := (hb.block _ (lt_of_block Hd.out)).trans Hd.out
  have hb1 : Below B w w1 := Hb0.out.trans (hb.mono (by rw [Hsz.out]; omega))
  clear c2
  have c2 := cell_n hc1 2 (v := .slice ao es.length cap) rfl
  have f2 := free_n hc1 2
  have hc2 : (w1.setCell ⟨B, 2, none⟩ (.slice ao' es.length cap')).heap[B]? = some (.cells (oLog base bt (.slice ao' es.length cap')) 52 (0, 0)) := by rw [heap_setCell, if_pos rfl, hc1]; simp [storeIn]
  have hd2 : (w1.setCell ⟨B, 2, none⟩ (.slice ao' es.length cap')).heap[B + 1]? = some (.cells (oLog 0 0 (.slice none 0 0)) 52 (0, 0)) := hp_set_other hd1 (by simp)
  have hb2 := hb1.setCell (p := ⟨B, 2, none⟩) (Nat.le_refl _) (.slice ao' es.length cap')
  have ho2 : OwnE (B + 2) (w1.setCell ⟨B, 2, none⟩ (.slice ao' es.length cap')) (.slice ao' es.length cap') es := by
    rw [← Hsz.out]; exact own_up ho (Up.setCell W.heap.size w1 (a := ⟨B, 2, none⟩) (by rw [Hsz.out]; simp) _) (Nat.le_refl _)
  obtain ⟨W2, hW2⟩ := hide (w1.setCell ⟨B, 2, none⟩ (.slice ao' es.length cap'))
  rw [hW2.out] at hc2 hd2 hb2 ho2
  have Hc2 := Lib.hid hc2
  have Hd2 := Lib.hid hd2
  have Hb2 := Lib.hid hb2
  have Ho2 := Lib.hid ho2
  clear hc1 hd1 hb1 hb hc2 hd2 hb2 ho2 ho
  go_upto_region 2 with fail
  rw [hW2.out]
  clear c2 f2
  have c0 := cell_n Hc2.out 0 (v := .int .i64 base) rfl
  have c1 := cell_n Hc2.out 1 (v := .int .i64 bt) rfl
  have c2 := cell_n Hc2.out 2 (v := .slice ao' es.length cap') rfl
  have d0 := cell_n Hd2.out 0 (v := .int .i64 0) rfl
  have d1 := cell_n Hd2.out 1 (v := .int .i64 0) rfl
  have d2 := cell_n Hd2.out 2 (v := .slice none 0 0) rfl
  have g0 := free_n Hd2.out 0
  have g1 := free_n Hd2.out 1
  have g2 := free_n Hd2.out 2
  have HE := Lib.hid (setAll_at (xs := [.int .i64 0, .int .i64 0, .slice none 0 0]) Hd2.out [.int .i64 base, .int .i64 bt, .slice ao' es.length cap'] rfl)
  have HB := Lib.hid (setAll_below Hb2.out (Nat.le_succ B) [.int .i64 base, .int .i64 bt, .slice ao' es.length cap'])
  have HO : Hid (OwnE (B + 2) (setAll W2 (B + 1) [.int .i64 base, .int .i64 bt, .slice ao' es.length cap']) (.slice ao' es.length cap') es) := own_up Ho2.out (Up.setAll _ W2 (by omega) _) (Nat.le_refl _)
  go_wp2_with fail
  change bodyPost _ _ _ Exit.ret _ (setAll W2 (B + 1) [.int .i64 base, .int .i64 bt, .slice ao' es.length cap'])
  generalize setAll W2 (B + 1) [.int .i64 base, .int .i64 bt, .slice ao' es.length cap'] = W5 at HE HB HO ⊢
  clear c0 c1 c2 d0 d1 d2 g0 g1 g2
  have c0 := cell_n HE.out 0 (v := .int .i64 base) rfl
  have c1 := cell_n HE.out 1 (v := .int .i64 bt) rfl
  have c2 := cell_n HE.out 2 (v := .slice ao' es.length cap') rfl
  refine bodyPost_ret (by simp [results, Try.results112, go_sem, c0, c1, c2]; rfl) rfl ?_
  rw [← HP.out]
  exact ⟨_, rfl, own_base HO.out (by rw [hB.out]; omega), by rw [hB.out]; exact HB.out⟩

set_option maxHeartbeats 1000000 in
theorem ref_sameEntries (v v2 : Value) (es : List EntP) (F G : Nat → Prop) (w : World) (h : Ents F w v es) (h2 : Ents G w v2 es) :
    Calls Try.prog 45 #[v, v2] w fun e w' => e = .returned (.bool true) ∧ Below w.heap.size w w' := by
  obtain ⟨ao, cap, rfl, hcap, hmax⟩ := h.slice
  obtain ⟨ao2, cap2, rfl, hcap2, _⟩ := h2.slice
  have HF : Hid (∀ w', Below w.heap.size w w' → Ents F w' (.slice ao es.length cap) es) := fun w' hb => h.frame (Plain.good _) (Agree.below hb)
  have HG : Hid (∀ w', Below w.heap.size w w' → Ents G w' (.slice ao2 es.length cap2) es) := fun w' hb => h2.frame (Plain.good _) (Agree.below hb)
  clear h h2
  go_enter Try.func45, Try.ntmps45
  go_wp2_with fail
  go_loopw [5] (fun i wr => ∃ k : Nat, i = .int .i64 k ∧ k ≤ es.length ∧ Hid (Below w.heap.size w wr)) (fun i _ => es.length - (intOf i).toNat)
  case atStart => exact ⟨0, rfl, Nat.zero_le _, Below.refl _ _⟩
  case round =>
    obtain ⟨k, rfl, hk, hb⟩ := hrel
    by_cases hlt : k < es.length
    · obtain ⟨b, off, us, rfl, _, _, hus, hcs⟩ := (HF.out _ hb.out).at hlt
      obtain ⟨b2, off2, us2, rfl, _, _, hus2, hcs2⟩ := (HG.out _ hb.out).at hlt
      obtain ⟨x, hx⟩ := hide es[k]
      rw [hx.out] at hus hus2
      have e1 : us = rowE x := hus
      have e2 : us2 = rowE x := hus2
      subst e1 e2
      have c0 := hcs 0 _ rfl
      have c1 := hcs 1 _ rfl
      have c2 := hcs 2 _ rfl
      have c3 := hcs 3 _ rfl
      have d0 := hcs2 0 _ rfl
      have d1 := hcs2 1 _ rfl
      have d2 := hcs2 2 _ rfl
      have d3 := hcs2 3 _ rfl
      rw [Nat.add_zero] at c0 d0
      clear hcs hcs2 hus hus2
      go_wp2_with (go_quiet (fail))
      go_roundw
      case rel => exact ⟨k + 1, by go_num, hlt, below_drew' hb.out _⟩
      case measure => simp [intOf]; omega
    · go_wp2_with fail
      go_ret
      exact ⟨rfl, hb.out⟩

set_option maxHeartbeats 1000000 in
theorem ref_sameLog (base bt : Int) (v v2 : Value) (es : List EntP) (F G : Nat → Prop) (w : World) (h : Ents F w v es) (h2 : Ents G w v2 es) :
    Calls Try.prog 40 #[vLog base bt v, vLog base bt v2] w fun e w' => e = .returned (.bool true) ∧ Below w.heap.size w w' := by
  obtain ⟨ao, cap, rfl, hcap, hmax⟩ := h.slice
  obtain ⟨ao2, cap2, rfl, hcap2, _⟩ := h2.slice
  obtain ⟨W, hW⟩ := hide ((w.alloc (.cells (oLog base bt (.slice ao es.length cap)) 52)).alloc (.cells (oLog base bt (.slice ao2 es.length cap2)) 52))
  obtain ⟨B, hB⟩ := hide w.heap.size
  have hc : W.heap[B]? = some (.cells (oLog base bt (.slice ao es.length cap)) 52 (0, 0)) := by rw [← hW.out, ← hB.out]; exact (hp_past _ _ (by simp)).trans (hp_at _ _ rfl)
  have hd : W.heap[B + 1]? = some (.cells (oLog base bt (.slice ao2 es.length cap2)) 52 (0, 0)) := by rw [← hW.out, ← hB.out]; exact hp_at _ _ (by simp)
  have hb0 : Below w.heap.size w W := by rw [← hW.out]; exact ((Below.refl _ _).alloc (Nat.le_refl _) _).alloc (by simp) _
  have K := Lib.hid (ref_sameEntries _ _ es F G W (h.frame (Plain.good _) (Agree.below hb0)) (h2.frame (Plain.good _) (Agree.below hb0)))
  have c2 := cell_n hc 2 (v := .slice ao es.length cap) rfl
  have d2 := cell_n hd 2 (v := .slice ao2 es.length cap2) rfl
  have Hc := Lib.hid hc
  have Hd := Lib.hid hd
  have Hb0 := Lib.hid hb0
  clear hc hd hb0 h h2 hmax
  go_enter Try.func40, Try.ntmps40
  go_upto_region 1 with fail
  rw [hW.out, hB.out]
  go_wp2_with fail
  refine K.out.mono ?_
  rintro e w1 ⟨rfl, hb⟩
  have hc1 := (hb.block _ (lt_of_block Hc.out)).trans Hc.out
  have hd1 := (hb.block _ (lt_of_block Hd.out)).trans Hd.out
  clear c2 d2
  have c0 := cell_n hc1 0 (v := .int .i64 base) rfl
  have c1 := cell_n hc1 1 (v := .int .i64 bt) rfl
  have d0 := cell_n hd1 0 (v := .int .i64 base) rfl
  have d1 := cell_n hd1 1 (v := .int .i64 bt) rfl
  have Hb := Lib.hid (Hb0.out.trans (hb.mono Hb0.out.size))
  clear hc1 hd1 hb
  go_wp2_with fail
  go_ret
  exact ⟨rfl, Hb.out⟩

abbrev e99 : EntP := ⟨99, 0, 0, []⟩
set_option maxHeartbeats 1000000 in
theorem law_entries' (v : Value) (es : List EntP) (F : Nat → Prop) (w : World) (h : Ents F w v es) (hn : es.length ≤ 3518437208800) :
    Calls Try.prog 38 #[v] w fun e w' => ∃ ao cap, e = .returned (.slice ao es.length cap) ∧ w'.ownsRow w.heap.size 56 4 (.slice ao (es.length + 1) cap) (es.length + 1) ((es ++ [e99]).flatMap rowE) ∧ Below w.heap.size w w' := by
  obtain ⟨post, HP⟩ := hide (fun (e : Ending) (w' : World) => ∃ ao cap, e = .returned (.slice ao es.length cap) ∧ w'.ownsRow w.heap.size 56 4 (.slice ao (es.length + 1) cap) (es.length + 1) ((es ++ [e99]).flatMap rowE) ∧ Below w.heap.size w w')
  rw [HP.out]
  obtain ⟨ao, cap, rfl, hcap, hmax⟩ := h.slice
  have Hs := Lib.hid (src_sl (P := Try.prog) (tx := 50) rowE Try.underlying50 (by decide) rowE_len rowE_one h)
  have Hn := Lib.hid hn
  clear h hn hmax
  go_enter Try.func38, Try.ntmps38
  go_wp2_with (at_builtin; refine wpList_append_src rfl _ _ 50 50 rfl w.heap.size 56 _ 4 40 Try.underlying50 info_ent rfl _ _ _ rfl (World.ownsRow_nil w w.heap.size 56 4) _ _ _ rfl Hs.out (by have := Hn.out; unfold maxLen; omega) (by have := Hn.out; omega) (Nat.le_refl _) ?_)
  intro v1 w1 ho1 hg1
  obtain ⟨a1, c1, rfl⟩ := owns_slice ho1
  have Ho1 := Lib.hid ho1
  have hb1 : Below w.heap.size w w1 := ⟨hg1.os, hg1.tape, hg1.output, hg1.size, fun k hk => hg1.block k hk (by simp [Value.ownBlock])⟩
  have Hb1 := Lib.hid hb1
  have hBs : w.heap.size ≤ w1.heap.size := hb1.size
  clear ho1 hg1 hb1
  go_wp2_with (at_builtin; refine wpList_push rfl _ _ 50 rfl w.heap.size 56 _ 4 40 Try.underlying50 info_ent rfl (by decide) _ _ _ rfl Ho1.out _ rfl rfl (by intro u hu; simp at hu; rcases hu with rfl | rfl | rfl | rfl <;> rfl) (by have := Hn.out; unfold maxLen; omega) (by have := Hn.out; omega) hBs ?_)
  intro v2 w2 ho2 hg2
  obtain ⟨a2, c2, rfl⟩ := owns_slice ho2
  have hcap2 : es.length ≤ c2 := by
    rcases ho2.2 with ⟨hv, h0⟩ | ⟨g, cap, cur, hv, hb, hg, hn, hc, hs, ht⟩
    · omega
    · injection hv with e1 e2 e3; omega
  have hb2 : Below w.heap.size w w2 := Hb1.out.trans (below_own Ho1.out hg2 (Nat.le_refl _) hBs)
  have Hb2 := Lib.hid hb2
  have Ho2 := Lib.hid ho2
  have hcap3 : es.length + 1 ≤ 9223372036854775807 := by have := Hn.out; omega
  clear ho2 hg2 hb2
  go_wp2_with fail
  rw [← HP.out]
  refine ⟨_, _, rfl, ?_, Hb2.out⟩
  have e1 : (es ++ [e99]).flatMap rowE = es.flatMap rowE ++ rowE e99 := by simp
  rw [e1]
  exact Ho2.out
end Go.Proofs.Ytlknkhmhdmpdkaa
