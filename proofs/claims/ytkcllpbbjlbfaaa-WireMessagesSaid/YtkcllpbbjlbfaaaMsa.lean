/-
  Entries as the laws copy and compare them.
-/
import Derived.Test.YtkcllpbbjlbfaaaEq
import Derived.Test.YtkcllpbbjlbfaaaLg
import Derived.Deep.DeepCutAuto
import Derived.Deep.QuietTactic
import Derived.BigQuiet
namespace Go.Proofs.Ytkcllpbbjlbfaaa
open Go.RowKit Wm Mm Lg
set_option linter.unusedVariables false
set_option linter.unusedSimpArgs false

theorem below_drew' {B : Nat} {w w' : World} (h : Below B w w') (n : Nat) : Below B w (w'.drewN n) := ⟨h.os, h.tape, h.output, h.size, h.block⟩
theorem info_ent : (Try.prog.info? 40).map (fun i => (i.zero, i.size, i.bytes)) = some (some (.agg #[.int .i64 0, .int .i64 0, .int .i64 0, .string ByteArray.empty]), 4, 40) := by kernel_rfl
theorem rowE_len (e : EntP) : (rowE e).length = 4 := rfl
theorem rowE_one (e : EntP) : ∀ u ∈ rowE e, u.oneCell' = true := by intro u hu; simp at hu; rcases hu with rfl | rfl | rfl | rfl <;> rfl
abbrev OwnE (S : Nat) (w : World) (v : Value) (l : List EntP) : Prop := w.ownsRow S 40 4 v l.length (l.flatMap rowE)
theorem OwnE.ents {S : Nat} {w : World} {v : Value} {l : List EntP} (h : OwnE S w v l) : Ents (fun k => S ≤ k) w v l := Sl.own rowE rowE_len h (fun _ _ => rfl) (fun _ _ h _ => h)
set_option maxHeartbeats 1000000 in
theorem ref_sameEntries (v v2 : Value) (es : List EntP) (F G : Nat → Prop) (w : World) (h : Ents F w v es) (h2 : Ents G w v2 es) :
    Calls Try.prog 36 #[v, v2] w fun e w' => e = .returned (.bool true) ∧ Below w.heap.size w w' := by
  obtain ⟨ao, cap, rfl, hcap, hmax⟩ := h.slice
  obtain ⟨ao2, cap2, rfl, hcap2, _⟩ := h2.slice
  have HF : Hid (∀ w', Below w.heap.size w w' → Ents F w' (.slice ao es.length cap) es) := fun w' hb => h.frame (Plain.good _) (Agree.below hb)
  have HG : Hid (∀ w', Below w.heap.size w w' → Ents G w' (.slice ao2 es.length cap2) es) := fun w' hb => h2.frame (Plain.good _) (Agree.below hb)
  clear h h2
  go_enter Try.func36, Try.ntmps36
  go_wp2_with fail
  go_loopw [5] (fun i wr => ∃ k : Nat, i = .int .i64 k ∧ k ≤ es.length ∧ Hid (Below w.heap.size w wr)) (fun i _ => es.length - (intOf i).toNat)
  case atStart => exact ⟨0, rfl, Nat.zero_le _, Below.refl _ _⟩
  case round =>
    obtain ⟨k, rfl, hk, hb⟩ := hrel
    by_cases hlt : k < es.length
    · obtain ⟨b, off, us, rfl, _, _, hus, hcs⟩ := (HF.out _ hb.out).at hlt
      obtain ⟨b2, off2, us2, rfl, _, _, hus2, hcs2⟩ := (HG.out _ hb.out).at hlt
      obtain ⟨x, hx⟩ := hide es[k]
      rw [hx.out] at hus hus2
      have e1 : us = rowE x := hus
      have e2 : us2 = rowE x := hus2
      subst e1 e2
      have c0 := hcs 0 _ rfl
      have c1 := hcs 1 _ rfl
      have c2 := hcs 2 _ rfl
      have c3 := hcs 3 _ rfl
      have d0 := hcs2 0 _ rfl
      have d1 := hcs2 1 _ rfl
      have d2 := hcs2 2 _ rfl
      have d3 := hcs2 3 _ rfl
      rw [Nat.add_zero] at c0 d0
      clear hcs hcs2 hus hus2
      go_wp2_with (go_quiet (fail))
      go_roundw
      case rel => exact ⟨k + 1, by go_num, hlt, below_drew' hb.out _⟩
      case measure => simp [intOf]; omega
    · go_wp2_with fail
      go_ret
      exact ⟨rfl, hb.out⟩
abbrev e99 : EntP := ⟨99, 0, 0, []⟩
set_option maxHeartbeats 1000000 in
theorem law_entries' (v : Value) (es : List EntP) (F : Nat → Prop) (w : World) (h : Ents F w v es) (hn : es.length ≤ 3518437208800) :
    Calls Try.prog 4 #[v] w fun e w' => ∃ ao cap, e = .returned (.slice ao es.length cap) ∧ w'.ownsRow w.heap.size 40 4 (.slice ao (es.length + 1) cap) (es.length + 1) ((es ++ [e99]).flatMap rowE) ∧ Below w.heap.size w w' := by
  obtain ⟨post, HP⟩ := hide (fun (e : Ending) (w' : World) => ∃ ao cap, e = .returned (.slice ao es.length cap) ∧ w'.ownsRow w.heap.size 40 4 (.slice ao (es.length + 1) cap) (es.length + 1) ((es ++ [e99]).flatMap rowE) ∧ Below w.heap.size w w')
  rw [HP.out]
  obtain ⟨ao, cap, rfl, hcap, hmax⟩ := h.slice
  have Hs := Lib.hid (src_sl (P := Try.prog) (tx := 22) rowE Try.underlying22 (by decide) rowE_len rowE_one h)
  have Hn := Lib.hid hn
  clear h hn hmax
  go_enter Try.func4, Try.ntmps4
  go_wp2_with (at_builtin; refine wpList_append_src rfl _ _ 22 22 rfl w.heap.size 40 _ 4 40 Try.underlying22 info_ent rfl _ _ _ rfl (World.ownsRow_nil w w.heap.size 40 4) _ _ _ rfl Hs.out (by have := Hn.out; unfold maxLen; omega) (by have := Hn.out; omega) (Nat.le_refl _) ?_)
  intro v1 w1 ho1 hg1
  obtain ⟨a1, c1, rfl⟩ := owns_slice ho1
  have Ho1 := Lib.hid ho1
  have hb1 : Below w.heap.size w w1 := ⟨hg1.os, hg1.tape, hg1.output, hg1.size, fun k hk => hg1.block k hk (by simp [Value.ownBlock])⟩
  have Hb1 := Lib.hid hb1
  have hBs : w.heap.size ≤ w1.heap.size := hb1.size
  clear ho1 hg1 hb1
  go_wp2_with (at_builtin; refine wpList_push rfl _ _ 22 rfl w.heap.size 40 _ 4 40 Try.underlying22 info_ent rfl (by decide) _ _ _ rfl Ho1.out _ rfl rfl (by intro u hu; simp at hu; rcases hu with rfl | rfl | rfl | rfl <;> rfl) (by have := Hn.out; unfold maxLen; omega) (by have := Hn.out; omega) hBs ?_)
  intro v2 w2 ho2 hg2
  obtain ⟨a2, c2, rfl⟩ := owns_slice ho2
  have hcap2 : es.length ≤ c2 := by
    rcases ho2.2 with ⟨hv, h0⟩ | ⟨g, cap, cur, hv, hb, hg, hn, hc, hs, ht⟩
    · omega
    · injection hv with e1 e2 e3; omega
  have hb2 : Below w.heap.size w w2 := Hb1.out.trans (below_own Ho1.out hg2 (Nat.le_refl _) hBs)
  have Hb2 := Lib.hid hb2
  have Ho2 := Lib.hid ho2
  have hcap3 : es.length + 1 ≤ 9223372036854775807 := by have := Hn.out; omega
  clear ho2 hg2 hb2
  go_wp2_with fail
  rw [← HP.out]
  refine ⟨_, _, rfl, ?_, Hb2.out⟩
  have e1 : (es ++ [e99]).flatMap rowE = es.flatMap rowE ++ rowE e99 := by simp
  rw [e1]
  exact Ho2.out
set_option maxHeartbeats 1000000 in
theorem law_heldEntries (ao : Option Addr) (cap : Nat) (v2 : Value) (es : List EntP) (F G : Nat → Prop) (w : World) (h : Ents F w (.slice ao (es.length + 1) cap) (es ++ [e99])) (h2 : Ents G w v2 es) :
    Calls Try.prog 10 #[.slice ao es.length cap, v2] w fun e w' => e = .returned (.bool true) ∧ Below w.heap.size w w' := by
  have hcap : es.length + 1 ≤ cap ∧ es.length + 1 ≤ 9223372036854775807 := by
    obtain ⟨a, c, he, h3, h4⟩ := h.slice
    injection he with e1 e2 e3
    simp at h3 h4
    omega
  have ht : Ents F w (.slice ao es.length cap) es := by
    have := h.take (k := es.length) (by simp)
    simpa using this
  have K := Lib.hid (ref_sameEntries _ _ es F G w ht h2)
  have HF : Hid (∀ w', Below w.heap.size w w' → Ents F w' (.slice ao (es.length + 1) cap) (es ++ [e99])) := fun w' hb => h.frame (Plain.good _) (Agree.below hb)
  obtain ⟨ao2, cap2, rfl, _, _⟩ := h2.slice
  obtain ⟨hc1, hc2⟩ := hcap
  clear h h2 ht
  go_enter Try.func10, Try.ntmps10
  go_wp2_with fail
  refine K.out.mono ?_
  rintro e w1 ⟨rfl, hb⟩
  obtain ⟨b, off, us, rfl, _, _, hus, hcs⟩ := (HF.out _ hb).at (k := es.length) (by simp)
  have e1 : us = rowE e99 := by
    have : us = rowE (es ++ [e99])[es.length] := hus
    simpa using this
  subst e1
  have d0 := hcs 0 _ rfl
  rw [Nat.add_zero] at d0
  have p1 : (es.length : Int) < ((es.length + 1 : Nat) : Int) := by omega
  have Hb := Lib.hid hb
  clear hcs hus hb
  go_wp2_with fail
  go_ret
  exact ⟨rfl, Hb.out⟩
end Go.Proofs.Ytkcllpbbjlbfaaa
