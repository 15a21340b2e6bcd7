/-
  A log that the law hands in; whether it was left alone; writing over entries. Commands and requests, both ways. The writer: its small methods, walked: each puts its bytes behind those that are there. The writer: its small methods, with all that they keep: every other block that is no row of bytes. The plain writers of the document's answer: a number, a text. Writing requests, both ways.
-/
import Derived.Test.YtjlhlmnoomiblaaGreatZ04
import Derived.Test.YtjlhlmnoomiblaaGreatZ02
import Derived.WalkSpells
import Derived.WalkLawsBesides
import Derived.Lib.Hide
import Derived.BigGuardPart
import Derived.Deep.AppendSrc
import Derived.Deep.QuietTactic
import Derived.BigQuiet
namespace Go.Proofs.YtjlhlmnoomiblaaGreat
open Go.RowKit Wm Mm Lg
set_option linter.unusedVariables false
set_option linter.unusedSimpArgs false

set_option maxHeartbeats 1000000 in
theorem law_heldEntries (ao : Option Addr) (cap : Nat) (v2 : Value) (es : List EntP) (F G : Nat → Prop) (w : World) (h : Ents F w (.slice ao (es.length + 1) cap) (es ++ [e99])) (h2 : Ents G w v2 es) :
    Calls Tryz.prog 15 #[.slice ao es.length cap, v2] w fun e w' => e = .returned (.bool true) ∧ Below w.heap.size w w' := by
  have hcap : es.length + 1 ≤ cap ∧ es.length + 1 ≤ 9223372036854775807 := by
    obtain ⟨a, c, he, h3, h4⟩ := h.slice
    injection he with e1 e2 e3
    simp at h3 h4
    omega
  have ht : Ents F w (.slice ao es.length cap) es := by
    have := h.take (k := es.length) (by simp)
    simpa using this
  have K := Lib.hid (ref_sameEntries _ _ es F G w ht h2)
  have HF : Hid (∀ w', Below w.heap.size w w' → Ents F w' (.slice ao (es.length + 1) cap) (es ++ [e99])) := fun w' hb => h.frame (Plain.good _) (Agree.below hb)
  obtain ⟨ao2, cap2, rfl, _, _⟩ := h2.slice
  obtain ⟨hc1, hc2⟩ := hcap
  clear h h2 ht
  go_enter Tryz.func15, Tryz.ntmps15
  go_wp2_with fail
  refine K.out.mono ?_
  rintro e w1 ⟨rfl, hb⟩
  obtain ⟨b, off, us, rfl, _, _, hus, hcs⟩ := (HF.out _ hb).at (k := es.length) (by simp)
  have e1 : us = rowE e99 := by
    have : us = rowE (es ++ [e99])[es.length] := hus
    simpa using this
  subst e1
  have d0 := hcs 0 _ rfl
  rw [Nat.add_zero] at d0
  have p1 : (es.length : Int) < ((es.length + 1 : Nat) : Int) := by omega
  have Hb := Lib.hid hb
  clear hcs hus hb
  go_wp2_with fail
  go_ret
  exact ⟨rfl, Hb.out⟩

theorem own_put {w : World} {S : Nat} {e : TypeId} {size n g cap : Nat} {xs : List Value} (h : w.ownsRow S e size (.slice (some ⟨g, 0, none⟩) n cap) n xs) (i : Nat) (u : Value) : (w.setCell ⟨g, i, none⟩ u).ownsRow S e size (.slice (some ⟨g, 0, none⟩) n cap) n (xs.set i u) := by
  refine ⟨by rw [List.length_set]; exact h.1, ?_⟩
  rcases h.2 with ⟨hv, _⟩ | ⟨g', cap', cur, hv, hb, hg, hn, hc, hs, ht⟩
  · cases hv
  · injection hv with e1 e2 e3
    injection e1 with e1
    injection e1 with e1
    subst e1 e3
    refine Or.inr ⟨g, _, cur.setIfInBounds i u, rfl, hb, by rw [heap_setCell, if_pos rfl, hg]; simp [storeIn], hn, hc, by simpa using hs, ?_⟩
    rw [Array.toList_setIfInBounds, List.take_set, ht]
theorem own_free {w : World} {S : Nat} {e : TypeId} {size n g cap : Nat} {xs : List Value} (h : w.ownsRow S e size (.slice (some ⟨g, 0, none⟩) n cap) n xs) (i : Nat) : w.frozen? ⟨g, i, none⟩ = false := by
  rcases h.2 with ⟨hv, _⟩ | ⟨g', cap', cur, hv, hb, hg, hn, hc, hs, ht⟩
  · cases hv
  · injection hv with e1 e2 e3
    injection e1 with e1
    injection e1 with e1
    subst e1
    exact free_n hg i
theorem own_cell {w : World} {S : Nat} {e : TypeId} {size n g cap : Nat} {xs : List Value} (h : w.ownsRow S e size (.slice (some ⟨g, 0, none⟩) n cap) n xs) {i : Nat} {u : Value} (hu : xs[i]? = some u) : w.cell? ⟨g, i, none⟩ = some u := by
  have := h.cells (g := g) rfl i u hu
  have hadd : (⟨g, 0, none⟩ : Addr).add i = ⟨g, i, none⟩ := by unfold Addr.add; split <;> simp_all
  rwa [hadd] at this
theorem own_lt {w : World} {S : Nat} {e : TypeId} {size n g cap : Nat} {xs : List Value} (h : w.ownsRow S e size (.slice (some ⟨g, 0, none⟩) n cap) n xs) : n ≤ cap ∧ cap ≤ 9223372036854775807 ∧ S ≤ g ∧ g < w.heap.size := by
  rcases h.2 with ⟨hv, _⟩ | ⟨g', cap', cur, hv, hb, hg, hn, hc, hs, ht⟩
  · cases hv
  · injection hv with e1 e2 e3
    injection e1 with e1
    injection e1 with e1
    subst e1 e3
    exact ⟨hn, by unfold maxLen at hc; omega, hb, lt_of_block hg⟩

end Go.Proofs.YtjlhlmnoomiblaaGreat

namespace Go.Proofs.YtjlhlmnoomiblaaGreat
open Go.RowKit Wm Mm
set_option linter.unusedVariables false

def inB (n low high : Int) : Bool := decide (low ≤ n) && decide (n ≤ high)

set_option maxHeartbeats 400000 in
theorem in_any (n low high : Int) (w : World) :
    Calls Tryz.prog 99 #[.int .i64 n, .int .i64 low, .int .i64 high] w fun e w' => e = .returned (.bool (inB n low high)) ∧ w = w' := by
  by_cases h1 : low ≤ n
  · have t1 : decide (low ≤ n) = true := decide_eq_true h1
    have e1 : inB n low high = decide (n ≤ high) := by unfold inB; rw [t1]; rfl
    rw [e1]
    clear h1 e1
    go_enter Tryz.func99, Tryz.ntmps99
    go_wp2
    go_ret
    exact ⟨rfl, rfl⟩
  · have t1 : decide (low ≤ n) = false := decide_eq_false h1
    have e1 : inB n low high = false := by unfold inB; rw [t1]; rfl
    rw [e1]
    clear h1 e1
    go_enter Tryz.func99, Tryz.ntmps99
    go_wp2
    go_ret
    exact ⟨rfl, rfl⟩

/-- may a command be? -/
def isCommand (kind : Int) (key val : List UInt8) (iff : Int) : Bool :=
  inB kind 1 6 && decide (key.length ≤ 16) && decide (val.length ≤ 64) && inB iff 0 1099511627775 &&
    (if kind = 6 then val == [] else if kind = 2 ∨ kind = 3 then (val == [] && iff == 0 && !(key == [])) else if kind = 1 ∨ kind = 5 then (iff == 0 && !(key == [])) else !(key == []))
abbrev vCmd (kind : Int) (key val : List UInt8) (iff : Int) : Value := .agg #[.int .i64 kind, str key, str val, .int .i64 iff]

end Go.Proofs.YtjlhlmnoomiblaaGreat

namespace Go.Proofs.YtjlhlmnoomiblaaGreat
open Go.RowKit Wm Mm
set_option linter.unusedVariables false

/-- the writer in block b has written xs, into memory that was made behind it -/
def Wr (w : World) (b : Nat) (xs : List UInt8) : Prop :=
  ∃ v, w.heap[b]? = some (.cells #[v] 125 (0, 0)) ∧ w.ownsRow (b + 1) 5 1 v xs.length (xs.map bval)

theorem info_u8 : (Tryz.prog.info? 5).map (fun i => (i.zero, i.size, i.bytes)) = some (some (.int .u8 0), 1, 1) := by kernel_rfl

theorem Wr.stored {w w1 : World} {b n : Nat} {v v' : Value} {ys : List Value} {xs : List UInt8} (hb : w.heap[b]? = some (.cells #[v] 125 (0, 0))) (ho : w.ownsRow (b + 1) 5 1 v n ys)
    (ho' : w1.ownsRow (b + 1) 5 1 v' xs.length (xs.map bval)) (hg : w.grownBy w1 v.ownBlock) :
    w1.cell? ⟨b, 0, none⟩ = some v ∧ w1.frozen? ⟨b, 0, none⟩ = false ∧ Wr (w1.setCell ⟨b, 0, none⟩ v') b xs ∧ Below b w (w1.setCell ⟨b, 0, none⟩ v') := by
  have hlt : b < w.heap.size := lt_of_block hb
  have hne : some b ≠ v.ownBlock := fun e => by have := (ho.lt b e.symm).1; omega
  have hb1 : w1.heap[b]? = some (.cells #[v] 125 (0, 0)) := (hg.block b hlt hne).trans hb
  refine ⟨cell_of_one hb1, free_of_one hb1, ⟨v', one_setCell hb1, ?_⟩, ?_⟩
  · exact ownsRow_setCell_other ho' (fun e => by have := (ho'.lt b e).1; omega) _
  · refine Below.trans (b := w1) ⟨hg.os, hg.tape, hg.output, hg.size, fun k hk => hg.block k (by omega) (fun e => by have := (ho.lt k e.symm).1; omega)⟩ ?_
    exact (Below.refl b w1).setCell (p := ⟨b, 0, none⟩) (Nat.le_refl _) _

set_option maxHeartbeats 1000000 in
theorem writer_number {w : World} {b : Nat} {xs : List UInt8} (n : Nat) (hn : n < 9223372036854775808) (hx : xs.length ≤ 140737488355300) (h : Wr w b xs) :
    Calls Tryz.prog 82 #[.pointer (some ⟨b, 0, none⟩), .int .i64 n] w fun e w' =>
      e = .returned (.tuple #[]) ∧ Wr w' b (xs ++ putNum n) ∧ Below b w w' := by
  obtain ⟨tot, ht⟩ := hide (xs ++ putNum n)
  rw [ht.out]
  have hl : tot.length ≤ 140737488355320 := by
    rw [← ht.out, List.length_append]
    have := putNum_len10 hn
    omega
  have Hl := Lib.hid hl
  clear hl hx
  have H := Lib.hid h
  clear h
  go_enter Tryz.func82, Tryz.ntmps82
  go_wp2
  go_loopw [1] (fun m wr => ∃ k : Nat, ∃ ys : List UInt8, m = .int .i64 k ∧ Hid (Wr wr b ys) ∧ Hid (Below b w wr) ∧ Hid (ys ++ putNum k = tot) ∧ k < 9223372036854775808)
    (fun m _ => (intOf m).toNat)
  case atStart => exact ⟨n, xs, rfl, H, Below.refl _ _, ht, hn⟩
  case round =>
    obtain ⟨k, ys, rfl, hw, hbel, heq, hk⟩ := hrel
    obtain ⟨v, hb, hown⟩ := hw.out
    have c0 := cell_of_one hb
    have f0 := free_of_one hb
    have Hb := Lib.hid hb
    have Ho := Lib.hid hown
    have hsz : b + 1 ≤ wr.heap.size := lt_of_block hb
    clear hb hown
    have hyl : ys.length + 1 ≤ 140737488355320 := by
      have h1 := Hl.out
      rw [← heq.out, List.length_append] at h1
      have : 1 ≤ (putNum k).length := by
        by_cases hk1 : k < 128
        · rw [putNum_small hk1]; simp
        · rw [putNum_big hk1]; simp
      omega
    by_cases hk1 : k < 128
    · have hd : decide ((127 : Int) < (k : Int)) = false := decide_eq_false (by omega)
      go_wp2_with (at_builtin; refine wpList_push rfl _ _ 98 rfl (b + 1) 5 (.int .u8 0) 1 1 Tryz.underlying98 info_u8 rfl (by decide) _ _ _ rfl Ho.out _ rfl rfl (by intro u hu; simp at hu; subst hu; rfl) (by unfold maxLen; omega) (by omega) hsz ?_)
      intro v' w1 ho hg
      obtain ⟨ao, co, rfl⟩ := owns_slice ho
      have ho' : w1.ownsRow (b + 1) 5 1 (.slice ao (ys.length + 1) co) (ys ++ [UInt8.ofNat k]).length ((ys ++ [UInt8.ofNat k]).map bval) := by
        rw [List.map_append, List.length_append, List.map_cons, List.map_nil, bval_ofNat k (by omega)]
        exact ho
      obtain ⟨c1, f1, hw1, hb1⟩ := Wr.stored Hb.out Ho.out ho' hg
      have e1 : ys ++ [UInt8.ofNat k] = tot := by rw [← heq.out, putNum_small hk1]
      rw [e1] at hw1
      have Hw := Lib.hid hw1
      have Hb1 := Lib.hid hb1
      clear ho ho' hg hw1 hb1 e1 c0 f0 hk1
      go_wp2_with fail
      go_end0
      exact ⟨rfl, Hw.out, hbel.out.trans Hb1.out⟩
    · have hd : decide ((127 : Int) < (k : Int)) = true := decide_eq_true (by omega)
      have hor : bits .or .u8 ((k : Int) % 256) 128 = ((128 + k % 128 : Nat) : Int) := by
        have h1 := u8_or_nat (k % 256) 128 (by omega) (by decide)
        have h2 : ∀ x, x < 256 → x ||| 128 = 128 + x % 128 := by decide +kernel
        rw [h2 _ (by omega), Nat.mod_mod_of_dvd _ (by decide)] at h1
        simpa using h1
      have Hor := Lib.hid hor
      go_wp2_with (at_builtin; refine wpList_push rfl _ _ 98 rfl (b + 1) 5 (.int .u8 0) 1 1 Tryz.underlying98 info_u8 rfl (by decide) _ _ _ rfl Ho.out _ rfl rfl (by intro u hu; simp at hu; subst hu; rfl) (by unfold maxLen; omega) (by omega) hsz ?_)
      intro v' w1 ho hg
      obtain ⟨ao, co, rfl⟩ := owns_slice ho
      have ho' : w1.ownsRow (b + 1) 5 1 (.slice ao (ys.length + 1) co) (ys ++ [UInt8.ofNat (128 + k % 128)]).length ((ys ++ [UInt8.ofNat (128 + k % 128)]).map bval) := by
        rw [List.map_append, List.length_append, List.map_cons, List.map_nil, bval_ofNat _ (by omega)]
        exact ho
      obtain ⟨c1, f1, hw1, hb1⟩ := Wr.stored Hb.out Ho.out ho' hg
      have e1 : (ys ++ [UInt8.ofNat (128 + k % 128)]) ++ putNum (k / 128) = tot := by rw [← heq.out, putNum_big hk1]; simp
      have Hw := Lib.hid hw1
      have Hb1 := Lib.hid hb1
      have He := Lib.hid e1
      clear ho ho' hg hw1 hb1 e1 c0 f0
      go_wp2_with fail
      go_roundw
      case rel => exact ⟨k / 128, _, by go_num, Hw, hbel.out.trans Hb1.out, He, by omega⟩
      case measure => simp [intOf]; omega

theorem src_str {P : Program} {w : World} {tx : TypeId} (hk : P.underlying tx = some .string) (s : List UInt8) : Src P 1 tx (str s) s.length (s.map bval) w := by
  have h := Src.ofString (w := w) hk ⟨s.toArray⟩
  have e : byteCells ⟨s.toArray⟩ = s.map bval := by simp [byteCells]
  rw [e] at h
  exact h

set_option maxHeartbeats 400000 in
theorem writer_text {w : World} {b : Nat} {xs : List UInt8} (s : List UInt8) (hx : xs.length + s.length ≤ 140737488355200) (h : Wr w b xs) :
    Calls Tryz.prog 101 #[.pointer (some ⟨b, 0, none⟩), str s] w fun e w' =>
      e = .returned (.tuple #[]) ∧ Wr w' b (xs ++ putText s) ∧ Below b w w' := by
  have HN := Lib.hid (writer_number s.length (by omega) (by omega) h)
  have hl := putNum_len10 (n := s.length) (by omega)
  clear h
  go_enter Tryz.func101, Tryz.ntmps101
  go_wp2_with fail
  refine HN.out.mono ?_
  rintro e w1 ⟨rfl, hw1, hb1⟩
  obtain ⟨v, hb, hown⟩ := hw1
  have c0 := cell_of_one hb
  have f0 := free_of_one hb
  have Hb := Lib.hid hb
  have Ho := Lib.hid hown
  have Hb1 := Lib.hid hb1
  have hsz : b + 1 ≤ w1.heap.size := lt_of_block hb
  clear hb hown hb1 HN
  have hm : (xs ++ putNum s.length).length + s.length ≤ 140737488355300 := by rw [List.length_append]; omega
  have Hm := Lib.hid hm
  clear hm hx hl
  go_wp2_with (at_builtin; refine wpList_append_src rfl _ _ 98 9 rfl (b + 1) 5 (.int .u8 0) 1 1 Tryz.underlying98 info_u8 rfl _ _ _ rfl Ho.out _ s.length (s.map bval) rfl (src_str Tryz.underlying9 s) (by have := Hm.out; unfold maxLen; omega) (by have := Hm.out; omega) hsz ?_)
  intro v' w2 ho hg
  obtain ⟨ao, co, rfl⟩ := owns_slice ho
  have ho' : w2.ownsRow (b + 1) 5 1 (.slice ao (xs.length + (putNum s.length).length + s.length) co) ((xs ++ putNum s.length) ++ s).length (((xs ++ putNum s.length) ++ s).map bval) := by
    have e1 : ((xs ++ putNum s.length) ++ s).length = xs.length + (putNum s.length).length + s.length := by simp only [List.length_append]
    have e2 : ((xs ++ putNum s.length) ++ s).map bval = xs.map bval ++ ((putNum s.length).map bval ++ s.map bval) := by simp
    rw [e1, e2]
    exact ho
  obtain ⟨c1, f1, hw2, hb2⟩ := Wr.stored Hb.out Ho.out ho' hg
  have e1 : (xs ++ putNum s.length) ++ s = xs ++ putText s := by rw [putText, List.append_assoc]
  rw [e1] at hw2
  have Hw := Lib.hid hw2
  have Hb2 := Lib.hid hb2
  clear ho ho' hg hw2 hb2 e1 c0 f0
  go_wp2_with fail
  go_end0
  exact ⟨rfl, Hw.out, Hb1.out.trans Hb2.out⟩
end Go.Proofs.YtjlhlmnoomiblaaGreat

namespace Go.Proofs.YtjlhlmnoomiblaaGreat
open Go.RowKit Wm Mm
set_option linter.unusedVariables false

/-- all blocks but b that hold no bytes are as they were -/
def Keeps (b : Nat) (w w' : World) : Prop := ∀ (k : Nat) (T : TypeId) (os : Array Value), k ≠ b → T ≠ 5 → w.heap[k]? = some (.cells os T (0, 0)) → w'.heap[k]? = some (.cells os T (0, 0))
def BK (b : Nat) (w w' : World) : Prop := Below b w w' ∧ Keeps b w w'
theorem BK.refl (b : Nat) (w : World) : BK b w w := ⟨Below.refl _ _, fun _ _ _ _ _ h => h⟩
theorem BK.trans {b : Nat} {w w1 w2 : World} (h : BK b w w1) (h2 : BK b w1 w2) : BK b w w2 := ⟨h.1.trans h2.1, fun k T os hk hT hw => h2.2 k T os hk hT (h.2 k T os hk hT hw)⟩
theorem BK.alloc {b : Nat} {w : World} (o : Obj) (hb : b ≤ w.heap.size) : BK b w (w.alloc o) :=
  ⟨(Below.refl _ _).alloc hb _, fun k T os hk hT hw => (hp_past _ _ (by have := lt_of_block hw; omega)).trans hw⟩

theorem Wr.stored2 {w w1 : World} {b n : Nat} {v v' : Value} {ys : List Value} {xs : List UInt8} (hb : w.heap[b]? = some (.cells #[v] 125 (0, 0))) (ho : w.ownsRow (b + 1) 5 1 v n ys)
    (ho' : w1.ownsRow (b + 1) 5 1 v' xs.length (xs.map bval)) (hg : w.grownBy w1 v.ownBlock) :
    w1.cell? ⟨b, 0, none⟩ = some v ∧ w1.frozen? ⟨b, 0, none⟩ = false ∧ Wr (w1.setCell ⟨b, 0, none⟩ v') b xs ∧ BK b w (w1.setCell ⟨b, 0, none⟩ v') := by
  obtain ⟨h1, h2, h3, h4⟩ := Wr.stored hb ho ho' hg
  refine ⟨h1, h2, h3, h4, fun k T os hk hT hw => ?_⟩
  have hne : some k ≠ v.ownBlock := by
    intro e
    rcases ho.2 with ⟨rfl, _⟩ | ⟨g, cap, cur, rfl, _, hg, _⟩
    · cases e
    · cases e
      rw [hw] at hg
      cases hg
      exact hT rfl
  exact hp_set_other ((hg.block k (lt_of_block hw) hne).trans hw) (fun e => hk e.symm)

set_option maxHeartbeats 1000000 in
theorem writer_number_k {w : World} {b : Nat} {xs : List UInt8} (n : Nat) (hn : n < 9223372036854775808) (hx : xs.length ≤ 140737488355300) (h : Wr w b xs) :
    Calls Tryz.prog 82 #[.pointer (some ⟨b, 0, none⟩), .int .i64 n] w fun e w' =>
      e = .returned (.tuple #[]) ∧ Wr w' b (xs ++ putNum n) ∧ BK b w w' := by
  obtain ⟨tot, ht⟩ := hide (xs ++ putNum n)
  rw [ht.out]
  have hl : tot.length ≤ 140737488355320 := by
    rw [← ht.out, List.length_append]
    have := putNum_len10 hn
    omega
  have Hl := Lib.hid hl
  clear hl hx
  have H := Lib.hid h
  clear h
  go_enter Tryz.func82, Tryz.ntmps82
  go_wp2
  go_loopw [1] (fun m wr => ∃ k : Nat, ∃ ys : List UInt8, m = .int .i64 k ∧ Hid (Wr wr b ys) ∧ Hid (BK b w wr) ∧ Hid (ys ++ putNum k = tot) ∧ k < 9223372036854775808)
    (fun m _ => (intOf m).toNat)
  case atStart => exact ⟨n, xs, rfl, H, BK.refl _ _, ht, hn⟩
  case round =>
    obtain ⟨k, ys, rfl, hw, hbel, heq, hk⟩ := hrel
    obtain ⟨v, hb, hown⟩ := hw.out
    have c0 := cell_of_one hb
    have f0 := free_of_one hb
    have Hb := Lib.hid hb
    have Ho := Lib.hid hown
    have hsz : b + 1 ≤ wr.heap.size := lt_of_block hb
    clear hb hown
    have hyl : ys.length + 1 ≤ 140737488355320 := by
      have h1 := Hl.out
      rw [← heq.out, List.length_append] at h1
      have : 1 ≤ (putNum k).length := by
        by_cases hk1 : k < 128
        · rw [putNum_small hk1]; simp
        · rw [putNum_big hk1]; simp
      omega
    by_cases hk1 : k < 128
    · have hd : decide ((127 : Int) < (k : Int)) = false := decide_eq_false (by omega)
      go_wp2_with (at_builtin; refine wpList_push rfl _ _ 98 rfl (b + 1) 5 (.int .u8 0) 1 1 Tryz.underlying98 info_u8 rfl (by decide) _ _ _ rfl Ho.out _ rfl rfl (by intro u hu; simp at hu; subst hu; rfl) (by unfold maxLen; omega) (by omega) hsz ?_)
      intro v' w1 ho hg
      obtain ⟨ao, co, rfl⟩ := owns_slice ho
      have ho' : w1.ownsRow (b + 1) 5 1 (.slice ao (ys.length + 1) co) (ys ++ [UInt8.ofNat k]).length ((ys ++ [UInt8.ofNat k]).map bval) := by
        rw [List.map_append, List.length_append, List.map_cons, List.map_nil, bval_ofNat k (by omega)]
        exact ho
      obtain ⟨c1, f1, hw1, hb1⟩ := Wr.stored2 Hb.out Ho.out ho' hg
      have e1 : ys ++ [UInt8.ofNat k] = tot := by rw [← heq.out, putNum_small hk1]
      rw [e1] at hw1
      have Hw := Lib.hid hw1
      have Hb1 := Lib.hid hb1
      clear ho ho' hg hw1 hb1 e1 c0 f0 hk1
      go_wp2_with fail
      go_end0
      exact ⟨rfl, Hw.out, hbel.out.trans Hb1.out⟩
    · have hd : decide ((127 : Int) < (k : Int)) = true := decide_eq_true (by omega)
      have hor : bits .or .u8 ((k : Int) % 256) 128 = ((128 + k % 128 : Nat) : Int) := by
        have h1 := u8_or_nat (k % 256) 128 (by omega) (by decide)
        have h2 : ∀ x, x < 256 → x ||| 128 = 128 + x % 128 := by decide +kernel
        rw [h2 _ (by omega), Nat.mod_mod_of_dvd _ (by decide)] at h1
        simpa using h1
      have Hor := Lib.hid hor
      go_wp2_with (at_builtin; refine wpList_push rfl _ _ 98 rfl (b + 1) 5 (.int .u8 0) 1 1 Tryz.underlying98 info_u8 rfl (by decide) _ _ _ rfl Ho.out _ rfl rfl (by intro u hu; simp at hu; subst hu; rfl) (by unfold maxLen; omega) (by omega) hsz ?_)
      intro v' w1 ho hg
      obtain ⟨ao, co, rfl⟩ := owns_slice ho
      have ho' : w1.ownsRow (b + 1) 5 1 (.slice ao (ys.length + 1) co) (ys ++ [UInt8.ofNat (128 + k % 128)]).length ((ys ++ [UInt8.ofNat (128 + k % 128)]).map bval) := by
        rw [List.map_append, List.length_append, List.map_cons, List.map_nil, bval_ofNat _ (by omega)]
        exact ho
      obtain ⟨c1, f1, hw1, hb1⟩ := Wr.stored2 Hb.out Ho.out ho' hg
      have e1 : (ys ++ [UInt8.ofNat (128 + k % 128)]) ++ putNum (k / 128) = tot := by rw [← heq.out, putNum_big hk1]; simp
      have Hw := Lib.hid hw1
      have Hb1 := Lib.hid hb1
      have He := Lib.hid e1
      clear ho ho' hg hw1 hb1 e1 c0 f0
      go_wp2_with fail
      go_roundw
      case rel => exact ⟨k / 128, _, by go_num, Hw, hbel.out.trans Hb1.out, He, by omega⟩
      case measure => simp [intOf]; omega

set_option maxHeartbeats 400000 in
theorem writer_text_k {w : World} {b : Nat} {xs : List UInt8} (s : List UInt8) (hx : xs.length + s.length ≤ 140737488355200) (h : Wr w b xs) :
    Calls Tryz.prog 101 #[.pointer (some ⟨b, 0, none⟩), str s] w fun e w' =>
      e = .returned (.tuple #[]) ∧ Wr w' b (xs ++ putText s) ∧ BK b w w' := by
  have HN := Lib.hid (writer_number_k s.length (by omega) (by omega) h)
  have hl := putNum_len10 (n := s.length) (by omega)
  clear h
  go_enter Tryz.func101, Tryz.ntmps101
  go_wp2_with fail
  refine HN.out.mono ?_
  rintro e w1 ⟨rfl, hw1, hb1⟩
  obtain ⟨v, hb, hown⟩ := hw1
  have c0 := cell_of_one hb
  have f0 := free_of_one hb
  have Hb := Lib.hid hb
  have Ho := Lib.hid hown
  have Hb1 := Lib.hid hb1
  have hsz : b + 1 ≤ w1.heap.size := lt_of_block hb
  clear hb hown hb1 HN
  have hm : (xs ++ putNum s.length).length + s.length ≤ 140737488355300 := by rw [List.length_append]; omega
  have Hm := Lib.hid hm
  clear hm hx hl
  go_wp2_with (at_builtin; refine wpList_append_src rfl _ _ 98 9 rfl (b + 1) 5 (.int .u8 0) 1 1 Tryz.underlying98 info_u8 rfl _ _ _ rfl Ho.out _ s.length (s.map bval) rfl (src_str Tryz.underlying9 s) (by have := Hm.out; unfold maxLen; omega) (by have := Hm.out; omega) hsz ?_)
  intro v' w2 ho hg
  obtain ⟨ao, co, rfl⟩ := owns_slice ho
  have ho' : w2.ownsRow (b + 1) 5 1 (.slice ao (xs.length + (putNum s.length).length + s.length) co) ((xs ++ putNum s.length) ++ s).length (((xs ++ putNum s.length) ++ s).map bval) := by
    have e1 : ((xs ++ putNum s.length) ++ s).length = xs.length + (putNum s.length).length + s.length := by simp only [List.length_append]
    have e2 : ((xs ++ putNum s.length) ++ s).map bval = xs.map bval ++ ((putNum s.length).map bval ++ s.map bval) := by simp
    rw [e1, e2]
    exact ho
  obtain ⟨c1, f1, hw2, hb2⟩ := Wr.stored2 Hb.out Ho.out ho' hg
  have e1 : (xs ++ putNum s.length) ++ s = xs ++ putText s := by rw [putText, List.append_assoc]
  rw [e1] at hw2
  have Hw := Lib.hid hw2
  have Hb2 := Lib.hid hb2
  clear ho ho' hg hw2 hb2 e1 c0 f0
  go_wp2_with fail
  go_end0
  exact ⟨rfl, Hw.out, Hb1.out.trans Hb2.out⟩
end Go.Proofs.YtjlhlmnoomiblaaGreat

namespace Go.Proofs.YtjlhlmnoomiblaaGreat
open Go.RowKit Wm Mm
set_option linter.unusedVariables false

theorem toStr1 (x : Int) (w : World) : (convert 98 9 (.slice (some ⟨w.heap.size, 0, none⟩) 1 1)).run Tryz.prog (w.alloc (.cells #[.int .u8 x] 5)) =
    .ok (str [UInt8.ofNat x.toNat]) (w.alloc (.cells #[.int .u8 x] 5)) :=
  run_toStr_new w _ _ _ 1 1 [x] rfl Tryz.underlying98 Tryz.underlying5 Tryz.underlying9

set_option maxHeartbeats 400000 in
theorem ref_number (k : Nat) : ∀ (n : Nat) (w : World), n ≤ k → n < 9223372036854775808 →
    Calls Tryz.prog 71 #[.int .i64 n] w fun e w' => e = .returned (str (putNum n)) ∧ Below w.heap.size w w' := by
  induction k with
  | zero =>
    intro n w hn _
    obtain rfl : n = 0 := by omega
    have kc := toStr1
    go_enter Tryz.func71, Tryz.ntmps71
    go_wp2_with fail
    go_ret
    exact ⟨by rw [putNum_small (by decide)]; rfl, (Below.refl _ _).alloc (Nat.le_refl _) _⟩
  | succ k ih =>
    intro n w hn hn2
    by_cases h : n < 128
    · have hd : decide ((n : Int) < 128) = true := decide_eq_true (by omega)
      have e1 : putNum n = [UInt8.ofNat n] := putNum_small h
      rw [e1]
      have kc := toStr1
      go_enter Tryz.func71, Tryz.ntmps71
      go_wp2_with fail
      go_ret
      exact ⟨rfl, (Below.refl _ _).alloc (Nat.le_refl _) _⟩
    · have hd : decide ((n : Int) < 128) = false := decide_eq_false (by omega)
      have e1 : putNum n = UInt8.ofNat (128 + n % 128) :: putNum (n / 128) := putNum_big h
      rw [e1]
      have hlen := putNum_len10 (n := n / 128) (by omega)
      obtain ⟨u, hu⟩ := hide (putNum (n / 128))
      have IH := Lib.hid (ih (n / 128) w (by omega) (by omega))
      rw [hu.out] at hlen ⊢
      clear ih e1
      have kc := toStr1
      go_enter Tryz.func71, Tryz.ntmps71
      go_wp2_with fail
      refine IH.out.mono ?_
      rw [hu.out]
      rintro e w1 ⟨rfl, hb⟩
      have Hb := Lib.hid hb
      clear hb IH
      go_wp2_with fail
      go_ret
      exact ⟨by simp, Hb.out.trans ((Below.refl _ _).alloc Hb.out.size _)⟩

theorem ref_number_any {n : Nat} (hn : n < 9223372036854775808) (w : World) :
    Calls Tryz.prog 71 #[.int .i64 n] w fun e w' => e = .returned (str (putNum n)) ∧ Below w.heap.size w w' := ref_number n n w (Nat.le_refl _) hn

set_option maxHeartbeats 400000 in
theorem ref_text (s : List UInt8) (w : World) (hs : s.length ≤ 9223372036854775000) :
    Calls Tryz.prog 77 #[str s] w fun e w' => e = .returned (str (putText s)) ∧ Below w.heap.size w w' := by
  have hlen := putNum_len10 (n := s.length) (by omega)
  have HN := Lib.hid (ref_number_any (n := s.length) (by omega) w)
  unfold putText
  obtain ⟨u, hu⟩ := hide (putNum s.length)
  rw [hu.out] at hlen ⊢
  go_enter Tryz.func77, Tryz.ntmps77
  go_wp2_with fail
  refine HN.out.mono ?_
  rw [hu.out]
  rintro e w1 ⟨rfl, hb⟩
  have Hb := Lib.hid hb
  clear hb HN
  have hsum : u.length + s.length ≤ 9223372036854775807 := by omega
  go_wp2_with fail
  go_ret
  exact ⟨by simp, Hb.out⟩
end Go.Proofs.YtjlhlmnoomiblaaGreat

namespace Go.Proofs.YtjlhlmnoomiblaaGreat
open Go.RowKit Wm Mm
set_option linter.unusedVariables false

def putCmd (kind : Nat) (key val : List UInt8) (iff : Nat) : List UInt8 := putNum kind ++ (putText key ++ (putText val ++ putNum iff))
theorem putText_len (s : List UInt8) (h : s.length < 9223372036854775808) : (putText s).length ≤ 9 + s.length := by
  have := putNum_len10 h
  simp [putText]; omega


theorem four_cells {w : World} {b : Nat} {x0 x1 x2 x3 : Value} {t : TypeId} (h : w.heap[b]? = some (.cells #[x0, x1, x2, x3] t (0, 0))) :
    w.cell? ⟨b, 0, none⟩ = some x0 ∧ w.cell? ⟨b, 1, none⟩ = some x1 ∧ w.cell? ⟨b, 2, none⟩ = some x2 ∧ w.cell? ⟨b, 3, none⟩ = some x3 := by
  simp [World.cell?, h]

/-- a request as a value -/
abbrev vReq (client number : Int) (kind : Int) (key val : List UInt8) (iff time : Int) : Value := .agg #[.int .i64 client, .int .i64 number, .int .i64 kind, str key, str val, .int .i64 iff, .int .i64 time]
def cmdNone (kind : Int) (key val : List UInt8) (iff : Int) : Bool := decide (kind = 0) && (key == [] && (val == [] && decide (iff = 0)))
def okReq (client number kind : Int) (key val : List UInt8) (iff time : Int) : Bool :=
  inB client 0 1099511627775 && inB number 0 1099511627775 && inB time 0 1099511627775 && (if client = 0 then cmdNone kind key val iff else isCommand kind key val iff)
def putReq (client number kind : Int) (key val : List UInt8) (iff time : Int) : List UInt8 :=
  if okReq client number kind key val iff time = true then putNum client.toNat ++ (putNum number.toNat ++ (putNum time.toNat ++ (if client = 0 then [] else putCmd kind.toNat key val iff.toNat))) else []
def putReqE (client number kind : Int) (key val : List UInt8) (iff time : Int) : Int := if okReq client number kind key val iff time = true then 0 else 5

theorem inB_nat {n h : Int} (H : inB n 0 h = true) : ∃ a : Nat, n = a ∧ (a : Int) ≤ h := by
  simp [inB] at H
  exact ⟨n.toNat, by omega, by omega⟩
theorem inB_of {n l h : Int} (H : inB n l h = true) : l ≤ n ∧ n ≤ h := by simpa [inB] using H
theorem isCommand_facts {kind : Int} {key val : List UInt8} {iff : Int} (h : isCommand kind key val iff = true) :
    inB kind 1 6 = true ∧ key.length ≤ 16 ∧ val.length ≤ 64 ∧ inB iff 0 1099511627775 = true := by
  unfold isCommand at h
  simp only [Bool.and_eq_true, decide_eq_true_eq] at h
  exact ⟨h.1.1.1.1, h.1.1.1.2, h.1.1.2, h.1.2⟩

/-- the writer's bytes, as a text -/
theorem writer_str {w : World} {v : Value} {base : Nat} {xs : List UInt8} (ho : w.ownsRow base 5 1 v xs.length (xs.map bval)) :
    (convert 98 9 v).run Tryz.prog w = .ok (str xs) w :=
  run_toStr_own w 98 9 5 base _ v xs Tryz.underlying98 Tryz.underlying5 Tryz.underlying9 ho

theorem seven_cells {w : World} {b : Nat} {x0 x1 x2 x3 x4 x5 x6 : Value} {t : TypeId} (h : w.heap[b]? = some (.cells #[x0, x1, x2, x3, x4, x5, x6] t (0, 0))) :
    w.cell? ⟨b, 0, none⟩ = some x0 ∧ w.cell? ⟨b, 1, none⟩ = some x1 ∧ w.cell? ⟨b, 2, none⟩ = some x2 ∧ w.cell? ⟨b, 3, none⟩ = some x3 ∧ w.cell? ⟨b, 4, none⟩ = some x4 ∧ w.cell? ⟨b, 5, none⟩ = some x5 ∧ w.cell? ⟨b, 6, none⟩ = some x6 := by
  simp [World.cell?, h]

end Go.Proofs.YtjlhlmnoomiblaaGreat
