/-
  Copies of entries and of logs; comparing them; writing over them. Opening arguments: entries, slices of entries, logs.
-/
import Derived.Test.YtjlhlmnoomiblaaGreatZ03
import Derived.Test.YtjlhlmnoomiblaaGreatZ02
namespace Go.Proofs.YtjlhlmnoomiblaaGreat
open Go.RowKit Wm Mm Lg
set_option linter.unusedVariables false
set_option linter.unusedSimpArgs false

theorem info_ent : (Tryz.prog.info? 78).map (fun i => (i.zero, i.size, i.bytes)) = some (some (.agg #[.int .i64 0, .int .i64 0, .int .i64 0, .string ByteArray.empty]), 4, 40) := by kernel_rfl
theorem rowE_len (e : EntP) : (rowE e).length = 4 := rfl
theorem rowE_one (e : EntP) : ∀ u ∈ rowE e, u.oneCell' = true := by intro u hu; simp at hu; rcases hu with rfl | rfl | rfl | rfl <;> rfl
abbrev OwnE (S : Nat) (w : World) (v : Value) (l : List EntP) : Prop := w.ownsRow S 78 4 v l.length (l.flatMap rowE)
theorem OwnE.ents {S : Nat} {w : World} {v : Value} {l : List EntP} (h : OwnE S w v l) : Ents (fun k => S ≤ k) w v l := Sl.own rowE rowE_len h (fun _ _ => rfl) (fun _ _ h _ => h)

set_option maxHeartbeats 1000000 in
theorem ref_sameEntries (v v2 : Value) (es : List EntP) (F G : Nat → Prop) (w : World) (h : Ents F w v es) (h2 : Ents G w v2 es) :
    Calls Tryz.prog 40 #[v, v2] w fun e w' => e = .returned (.bool true) ∧ Below w.heap.size w w' := by
  obtain ⟨ao, cap, rfl, hcap, hmax⟩ := h.slice
  obtain ⟨ao2, cap2, rfl, hcap2, _⟩ := h2.slice
  have HF : Hid (∀ w', Below w.heap.size w w' → Ents F w' (.slice ao es.length cap) es) := fun w' hb => h.frame (Plain.good _) (Agree.below hb)
  have HG : Hid (∀ w', Below w.heap.size w w' → Ents G w' (.slice ao2 es.length cap2) es) := fun w' hb => h2.frame (Plain.good _) (Agree.below hb)
  clear h h2
  go_enter Tryz.func40, Tryz.ntmps40
  go_wp2_with fail
  go_loopw [5] (fun i wr => ∃ k : Nat, i = .int .i64 k ∧ k ≤ es.length ∧ Hid (Below w.heap.size w wr)) (fun i _ => es.length - (intOf i).toNat)
  case atStart => exact ⟨0, rfl, Nat.zero_le _, Below.refl _ _⟩
  case round =>
    obtain ⟨k, rfl, hk, hb⟩ := hrel
    by_cases hlt : k < es.length
    · obtain ⟨b, off, us, rfl, _, _, hus, hcs⟩ := (HF.out _ hb.out).at hlt
      obtain ⟨b2, off2, us2, rfl, _, _, hus2, hcs2⟩ := (HG.out _ hb.out).at hlt
      obtain ⟨x, hx⟩ := hide es[k]
      rw [hx.out] at hus hus2
      have e1 : us = rowE x := hus
      have e2 : us2 = rowE x := hus2
      subst e1 e2
      have c0 := hcs 0 _ rfl
      have c1 := hcs 1 _ rfl
      have c2 := hcs 2 _ rfl
      have c3 := hcs 3 _ rfl
      have d0 := hcs2 0 _ rfl
      have d1 := hcs2 1 _ rfl
      have d2 := hcs2 2 _ rfl
      have d3 := hcs2 3 _ rfl
      rw [Nat.add_zero] at c0 d0
      clear hcs hcs2 hus hus2
      go_wp2_with (go_quiet (fail))
      go_roundw
      case rel => exact ⟨k + 1, by go_num, hlt, below_drew' hb.out _⟩
      case measure => simp [intOf]; omega
    · go_wp2_with fail
      go_ret
      exact ⟨rfl, hb.out⟩

set_option maxHeartbeats 1000000 in
theorem ref_sameLog (base bt : Int) (v v2 : Value) (es : List EntP) (F G : Nat → Prop) (w : World) (h : Ents F w v es) (h2 : Ents G w v2 es) :
    Calls Tryz.prog 36 #[vLog base bt v, vLog base bt v2] w fun e w' => e = .returned (.bool true) ∧ Below w.heap.size w w' := by
  obtain ⟨ao, cap, rfl, hcap, hmax⟩ := h.slice
  obtain ⟨ao2, cap2, rfl, hcap2, _⟩ := h2.slice
  obtain ⟨W, hW⟩ := hide ((w.alloc (.cells (oLog base bt (.slice ao es.length cap)) 41)).alloc (.cells (oLog base bt (.slice ao2 es.length cap2)) 41))
  obtain ⟨B, hB⟩ := hide w.heap.size
  have hc : W.heap[B]? = some (.cells (oLog base bt (.slice ao es.length cap)) 41 (0, 0)) := by rw [← hW.out, ← hB.out]; exact (hp_past _ _ (by simp)).trans (hp_at _ _ rfl)
  have hd : W.heap[B + 1]? = some (.cells (oLog base bt (.slice ao2 es.length cap2)) 41 (0, 0)) := by rw [← hW.out, ← hB.out]; exact hp_at _ _ (by simp)
  have hb0 : Below w.heap.size w W := by rw [← hW.out]; exact ((Below.refl _ _).alloc (Nat.le_refl _) _).alloc (by simp) _
  have K := Lib.hid (ref_sameEntries _ _ es F G W (h.frame (Plain.good _) (Agree.below hb0)) (h2.frame (Plain.good _) (Agree.below hb0)))
  have c2 := cell_n hc 2 (v := .slice ao es.length cap) rfl
  have d2 := cell_n hd 2 (v := .slice ao2 es.length cap2) rfl
  have Hc := Lib.hid hc
  have Hd := Lib.hid hd
  have Hb0 := Lib.hid hb0
  clear hc hd hb0 h h2 hmax
  go_enter Tryz.func36, Tryz.ntmps36
  go_upto_region 1 with fail
  rw [hW.out, hB.out]
  go_wp2_with fail
  refine K.out.mono ?_
  rintro e w1 ⟨rfl, hb⟩
  have hc1 := (hb.block _ (lt_of_block Hc.out)).trans Hc.out
  have hd1 := (hb.block _ (lt_of_block Hd.out)).trans Hd.out
  clear c2 d2
  have c0 := cell_n hc1 0 (v := .int .i64 base) rfl
  have c1 := cell_n hc1 1 (v := .int .i64 bt) rfl
  have d0 := cell_n hd1 0 (v := .int .i64 base) rfl
  have d1 := cell_n hd1 1 (v := .int .i64 bt) rfl
  have Hb := Lib.hid (Hb0.out.trans (hb.mono Hb0.out.size))
  clear hc1 hd1 hb
  go_wp2_with fail
  go_ret
  exact ⟨rfl, Hb.out⟩

abbrev e99 : EntP := ⟨99, 0, 0, []⟩
set_option maxHeartbeats 1000000 in
theorem law_entries' (v : Value) (es : List EntP) (F : Nat → Prop) (w : World) (h : Ents F w v es) (hn : es.length ≤ 3518437208800) :
    Calls Tryz.prog 14 #[v] w fun e w' => ∃ ao cap, e = .returned (.slice ao es.length cap) ∧ w'.ownsRow w.heap.size 78 4 (.slice ao (es.length + 1) cap) (es.length + 1) ((es ++ [e99]).flatMap rowE) ∧ Below w.heap.size w w' := by
  obtain ⟨post, HP⟩ := hide (fun (e : Ending) (w' : World) => ∃ ao cap, e = .returned (.slice ao es.length cap) ∧ w'.ownsRow w.heap.size 78 4 (.slice ao (es.length + 1) cap) (es.length + 1) ((es ++ [e99]).flatMap rowE) ∧ Below w.heap.size w w')
  rw [HP.out]
  obtain ⟨ao, cap, rfl, hcap, hmax⟩ := h.slice
  have Hs := Lib.hid (src_sl (P := Tryz.prog) (tx := 24) rowE Tryz.underlying24 (by decide) rowE_len rowE_one h)
  have Hn := Lib.hid hn
  clear h hn hmax
  go_enter Tryz.func14, Tryz.ntmps14
  go_wp2_with (at_builtin; refine wpList_append_src rfl _ _ 24 24 rfl w.heap.size 78 _ 4 40 Tryz.underlying24 info_ent rfl _ _ _ rfl (World.ownsRow_nil w w.heap.size 78 4) _ _ _ rfl Hs.out (by have := Hn.out; unfold maxLen; omega) (by have := Hn.out; omega) (Nat.le_refl _) ?_)
  intro v1 w1 ho1 hg1
  obtain ⟨a1, c1, rfl⟩ := owns_slice ho1
  have Ho1 := Lib.hid ho1
  have hb1 : Below w.heap.size w w1 := ⟨hg1.os, hg1.tape, hg1.output, hg1.size, fun k hk => hg1.block k hk (by simp [Value.ownBlock])⟩
  have Hb1 := Lib.hid hb1
  have hBs : w.heap.size ≤ w1.heap.size := hb1.size
  clear ho1 hg1 hb1
  go_wp2_with (at_builtin; refine wpList_push rfl _ _ 24 rfl w.heap.size 78 _ 4 40 Tryz.underlying24 info_ent rfl (by decide) _ _ _ rfl Ho1.out _ rfl rfl (by intro u hu; simp at hu; rcases hu with rfl | rfl | rfl | rfl <;> rfl) (by have := Hn.out; unfold maxLen; omega) (by have := Hn.out; omega) hBs ?_)
  intro v2 w2 ho2 hg2
  obtain ⟨a2, c2, rfl⟩ := owns_slice ho2
  have hcap2 : es.length ≤ c2 := by
    rcases ho2.2 with ⟨hv, h0⟩ | ⟨g, cap, cur, hv, hb, hg, hn, hc, hs, ht⟩
    · omega
    · injection hv with e1 e2 e3; omega
  have hb2 : Below w.heap.size w w2 := Hb1.out.trans (below_own Ho1.out hg2 (Nat.le_refl _) hBs)
  have Hb2 := Lib.hid hb2
  have Ho2 := Lib.hid ho2
  have hcap3 : es.length + 1 ≤ 9223372036854775807 := by have := Hn.out; omega
  clear ho2 hg2 hb2
  go_wp2_with fail
  rw [← HP.out]
  refine ⟨_, _, rfl, ?_, Hb2.out⟩
  have e1 : (es ++ [e99]).flatMap rowE = es.flatMap rowE ++ rowE e99 := by simp
  rw [e1]
  exact Ho2.out
end Go.Proofs.YtjlhlmnoomiblaaGreat

namespace Go.Proofs.YtjlhlmnoomiblaaGreat.Opn
open Go.ChangeShapes Go.WideShapes Go.ChangeAt Go.RowKit Wm Mm Lg
set_option linter.unusedVariables false
theorem cells_int : Tryz.prog.cellsOf 3 = 1 := by kernel_rfl
theorem cells_str : Tryz.prog.cellsOf 9 = 1 := by kernel_rfl
theorem cells_entry : Tryz.prog.cellsOf 78 = 4 := by kernel_rfl
theorem cells_entries : Tryz.prog.cellsOf 24 = 1 := by kernel_rfl
theorem cells_log : Tryz.prog.cellsOf 41 = 3 := by kernel_rfl
theorem bytes_entry : Tryz.prog.bytesOf 78 = 40 := by kernel_rfl
set_option maxRecDepth 100000 in
theorem opens_entry : Opens Tryz.prog 78 (fun _ cs (e : EntP) => cs = rowE e) (fun _ => True) := by
  intro H enc w base spare held n cs x hx
  obtain ⟨hl, hg⟩ := struct_at Tryz.underlying78 hx
  rw [cells_entry] at hl
  match cs, hl with
  | [c0, c1, c2, c3], _ =>
    obtain ⟨m0, y0, h0, _⟩ := hg 0 _ rfl
    obtain ⟨m1, y1, h1, _⟩ := hg 1 _ rfl
    obtain ⟨m2, y2, h2, _⟩ := hg 2 _ rfl
    obtain ⟨m3, y3, h3, _⟩ := hg 3 _ rfl
    have h0 : DataW.trod enc Tryz.prog w base spare held m0 3 (([c0, c1, c2, c3].drop 0).take (Tryz.prog.cellsOf 3)) = some y0 := h0
    have h1 : DataW.trod enc Tryz.prog w base spare held m1 3 (([c0, c1, c2, c3].drop 1).take (Tryz.prog.cellsOf 3)) = some y1 := h1
    have h2 : DataW.trod enc Tryz.prog w base spare held m2 3 (([c0, c1, c2, c3].drop 2).take (Tryz.prog.cellsOf 3)) = some y2 := h2
    have h3 : DataW.trod enc Tryz.prog w base spare held m3 9 (([c0, c1, c2, c3].drop 3).take (Tryz.prog.cellsOf 9)) = some y3 := h3
    rw [cells_int] at h0 h1 h2
    rw [cells_str] at h3
    obtain ⟨a, ha, _⟩ := opens_int Tryz.underlying3 enc w base spare held m0 _ y0 h0
    obtain ⟨b, hb, _⟩ := opens_int Tryz.underlying3 enc w base spare held m1 _ y1 h1
    obtain ⟨c, hc, _⟩ := opens_int Tryz.underlying3 enc w base spare held m2 _ y2 h2
    obtain ⟨d, hd, _⟩ := opens_str Tryz.underlying9 enc w base spare held m3 _ y3 h3
    obtain rfl : c0 = .int .i64 a := by simpa using ha
    obtain rfl : c1 = .int .i64 b := by simpa using hb
    obtain rfl : c2 = .int .i64 c := by simpa using hc
    obtain rfl : c3 = str d := by simpa using hd
    exact ⟨⟨a, b, c, d⟩, rfl, fun _ => trivial⟩
theorem opens_entries : Opens Tryz.prog 24 (fun w cs (l : List EntP) => ∃ v, cs = [v] ∧ Ents (fun _ => True) w v l) (fun l => l.length ≤ 3518437208780) :=
  (opens_sl rowE Tryz.underlying24 cells_entry (by decide) opens_entry).imp (fun w cs y h => h) (fun y h => by
    have h1 := h.1
    rw [bytes_entry] at h1
    have hr : reachBytes = 140737488351232 := rfl
    omega)
set_option maxRecDepth 100000 in
theorem opens_log : Opens Tryz.prog 41 (fun w cs (q : Int × Int × List EntP) => ∃ ev, cs = [.int .i64 q.1, .int .i64 q.2.1, ev] ∧ Ents (fun _ => True) w ev q.2.2) (fun q => q.2.2.length ≤ 3518437208780) := by
  intro H enc w base spare held n cs x hx
  obtain ⟨hl, hg⟩ := struct_at Tryz.underlying41 hx
  rw [cells_log] at hl
  match cs, hl with
  | [c0, c1, c2], _ =>
    obtain ⟨m0, y0, h0, _⟩ := hg 0 _ rfl
    obtain ⟨m1, y1, h1, _⟩ := hg 1 _ rfl
    obtain ⟨m2, y2, h2, hw2⟩ := hg 2 _ rfl
    have h0 : DataW.trod enc Tryz.prog w base spare held m0 3 (([c0, c1, c2].drop 0).take (Tryz.prog.cellsOf 3)) = some y0 := h0
    have h1 : DataW.trod enc Tryz.prog w base spare held m1 3 (([c0, c1, c2].drop 1).take (Tryz.prog.cellsOf 3)) = some y1 := h1
    have h2 : DataW.trod enc Tryz.prog w base spare held m2 24 (([c0, c1, c2].drop 2).take (Tryz.prog.cellsOf 24)) = some y2 := h2
    rw [cells_int] at h0 h1
    rw [cells_entries] at h2
    obtain ⟨a, ha, _⟩ := opens_int Tryz.underlying3 enc w base spare held m0 _ y0 h0
    obtain ⟨b, hb, _⟩ := opens_int Tryz.underlying3 enc w base spare held m1 _ y1 h1
    obtain ⟨l, ⟨v, hv, hs⟩, hf⟩ := opens_entries enc w base spare held m2 _ y2 h2
    obtain rfl : c0 = .int .i64 a := by simpa using ha
    obtain rfl : c1 = .int .i64 b := by simpa using hb
    obtain rfl : c2 = v := by simpa using hv
    exact ⟨⟨a, b, l⟩, ⟨c2, rfl, hs⟩, fun hw => hf (hw2 hw)⟩
end Go.Proofs.YtjlhlmnoomiblaaGreat.Opn
