/-
  The writer: its small methods, walked: each puts its bytes behind those that are there. The writer: its small methods, with all that they keep: every other block that is no row of bytes. The plain writers of the document's answer: a number, a text.
-/
import Derived.Test.YtjlhlmnoomiblaaZ01
import Derived.WalkSpells
import Derived.WalkLawsBesides
import Derived.Lib.Hide
import Derived.Deep.AppendSrc
namespace Go.Proofs.Ytjlhlmnoomiblaa
open Go.RowKit Wm Mm
set_option linter.unusedVariables false

/-- the writer in block b has written xs, into memory that was made behind it -/
def Wr (w : World) (b : Nat) (xs : List UInt8) : Prop :=
  ∃ v, w.heap[b]? = some (.cells #[v] 99 (0, 0)) ∧ w.ownsRow (b + 1) 5 1 v xs.length (xs.map bval)

theorem info_u8 : (Try.prog.info? 5).map (fun i => (i.zero, i.size, i.bytes)) = some (some (.int .u8 0), 1, 1) := by kernel_rfl

theorem Wr.stored {w w1 : World} {b n : Nat} {v v' : Value} {ys : List Value} {xs : List UInt8} (hb : w.heap[b]? = some (.cells #[v] 99 (0, 0))) (ho : w.ownsRow (b + 1) 5 1 v n ys)
    (ho' : w1.ownsRow (b + 1) 5 1 v' xs.length (xs.map bval)) (hg : w.grownBy w1 v.ownBlock) :
    w1.cell? ⟨b, 0, none⟩ = some v ∧ w1.frozen? ⟨b, 0, none⟩ = false ∧ Wr (w1.setCell ⟨b, 0, none⟩ v') b xs ∧ Below b w (w1.setCell ⟨b, 0, none⟩ v') := by
  have hlt : b < w.heap.size := lt_of_block hb
  have hne : some b ≠ v.ownBlock := fun e => by have := (ho.lt b e.symm).1; omega
  have hb1 : w1.heap[b]? = some (.cells #[v] 99 (0, 0)) := (hg.block b hlt hne).trans hb
  refine ⟨cell_of_one hb1, free_of_one hb1, ⟨v', one_setCell hb1, ?_⟩, ?_⟩
  · exact ownsRow_setCell_other ho' (fun e => by have := (ho'.lt b e).1; omega) _
  · refine Below.trans (b := w1) ⟨hg.os, hg.tape, hg.output, hg.size, fun k hk => hg.block k (by omega) (fun e => by have := (ho.lt k e.symm).1; omega)⟩ ?_
    exact (Below.refl b w1).setCell (p := ⟨b, 0, none⟩) (Nat.le_refl _) _

set_option maxHeartbeats 1000000 in
theorem writer_number {w : World} {b : Nat} {xs : List UInt8} (n : Nat) (hn : n < 9223372036854775808) (hx : xs.length ≤ 140737488355300) (h : Wr w b xs) :
    Calls Try.prog 41 #[.pointer (some ⟨b, 0, none⟩), .int .i64 n] w fun e w' =>
      e = .returned (.tuple #[]) ∧ Wr w' b (xs ++ putNum n) ∧ Below b w w' := by
  obtain ⟨tot, ht⟩ := hide (xs ++ putNum n)
  rw [ht.out]
  have hl : tot.length ≤ 140737488355320 := by
    rw [← ht.out, List.length_append]
    have := putNum_len10 hn
    omega
  have Hl := Lib.hid hl
  clear hl hx
  have H := Lib.hid h
  clear h
  go_enter Try.func41, Try.ntmps41
  go_wp2
  go_loopw [1] (fun m wr => ∃ k : Nat, ∃ ys : List UInt8, m = .int .i64 k ∧ Hid (Wr wr b ys) ∧ Hid (Below b w wr) ∧ Hid (ys ++ putNum k = tot) ∧ k < 9223372036854775808)
    (fun m _ => (intOf m).toNat)
  case atStart => exact ⟨n, xs, rfl, H, Below.refl _ _, ht, hn⟩
  case round =>
    obtain ⟨k, ys, rfl, hw, hbel, heq, hk⟩ := hrel
    obtain ⟨v, hb, hown⟩ := hw.out
    have c0 := cell_of_one hb
    have f0 := free_of_one hb
    have Hb := Lib.hid hb
    have Ho := Lib.hid hown
    have hsz : b + 1 ≤ wr.heap.size := lt_of_block hb
    clear hb hown
    have hyl : ys.length + 1 ≤ 140737488355320 := by
      have h1 := Hl.out
      rw [← heq.out, List.length_append] at h1
      have : 1 ≤ (putNum k).length := by
        by_cases hk1 : k < 128
        · rw [putNum_small hk1]; simp
        · rw [putNum_big hk1]; simp
      omega
    by_cases hk1 : k < 128
    · have hd : decide ((127 : Int) < (k : Int)) = false := decide_eq_false (by omega)
      go_wp2_with (at_builtin; refine wpList_push rfl _ _ 35 rfl (b + 1) 5 (.int .u8 0) 1 1 Try.underlying35 info_u8 rfl (by decide) _ _ _ rfl Ho.out _ rfl rfl (by intro u hu; simp at hu; subst hu; rfl) (by unfold maxLen; omega) (by omega) hsz ?_)
      intro v' w1 ho hg
      obtain ⟨ao, co, rfl⟩ := owns_slice ho
      have ho' : w1.ownsRow (b + 1) 5 1 (.slice ao (ys.length + 1) co) (ys ++ [UInt8.ofNat k]).length ((ys ++ [UInt8.ofNat k]).map bval) := by
        rw [List.map_append, List.length_append, List.map_cons, List.map_nil, bval_ofNat k (by omega)]
        exact ho
      obtain ⟨c1, f1, hw1, hb1⟩ := Wr.stored Hb.out Ho.out ho' hg
      have e1 : ys ++ [UInt8.ofNat k] = tot := by rw [← heq.out, putNum_small hk1]
      rw [e1] at hw1
      have Hw := Lib.hid hw1
      have Hb1 := Lib.hid hb1
      clear ho ho' hg hw1 hb1 e1 c0 f0 hk1
      go_wp2_with fail
      go_end0
      exact ⟨rfl, Hw.out, hbel.out.trans Hb1.out⟩
    · have hd : decide ((127 : Int) < (k : Int)) = true := decide_eq_true (by omega)
      have hor : bits .or .u8 ((k : Int) % 256) 128 = ((128 + k % 128 : Nat) : Int) := by
        have h1 := u8_or_nat (k % 256) 128 (by omega) (by decide)
        have h2 : ∀ x, x < 256 → x ||| 128 = 128 + x % 128 := by decide +kernel
        rw [h2 _ (by omega), Nat.mod_mod_of_dvd _ (by decide)] at h1
        simpa using h1
      have Hor := Lib.hid hor
      go_wp2_with (at_builtin; refine wpList_push rfl _ _ 35 rfl (b + 1) 5 (.int .u8 0) 1 1 Try.underlying35 info_u8 rfl (by decide) _ _ _ rfl Ho.out _ rfl rfl (by intro u hu; simp at hu; subst hu; rfl) (by unfold maxLen; omega) (by omega) hsz ?_)
      intro v' w1 ho hg
      obtain ⟨ao, co, rfl⟩ := owns_slice ho
      have ho' : w1.ownsRow (b + 1) 5 1 (.slice ao (ys.length + 1) co) (ys ++ [UInt8.ofNat (128 + k % 128)]).length ((ys ++ [UInt8.ofNat (128 + k % 128)]).map bval) := by
        rw [List.map_append, List.length_append, List.map_cons, List.map_nil, bval_ofNat _ (by omega)]
        exact ho
      obtain ⟨c1, f1, hw1, hb1⟩ := Wr.stored Hb.out Ho.out ho' hg
      have e1 : (ys ++ [UInt8.ofNat (128 + k % 128)]) ++ putNum (k / 128) = tot := by rw [← heq.out, putNum_big hk1]; simp
      have Hw := Lib.hid hw1
      have Hb1 := Lib.hid hb1
      have He := Lib.hid e1
      clear ho ho' hg hw1 hb1 e1 c0 f0
      go_wp2_with fail
      go_roundw
      case rel => exact ⟨k / 128, _, by go_num, Hw, hbel.out.trans Hb1.out, He, by omega⟩
      case measure => simp [intOf]; omega

theorem src_str {P : Program} {w : World} {tx : TypeId} (hk : P.underlying tx = some .string) (s : List UInt8) : Src P 1 tx (str s) s.length (s.map bval) w := by
  have h := Src.ofString (w := w) hk ⟨s.toArray⟩
  have e : byteCells ⟨s.toArray⟩ = s.map bval := by simp [byteCells]
  rw [e] at h
  exact h

set_option maxHeartbeats 400000 in
theorem writer_text {w : World} {b : Nat} {xs : List UInt8} (s : List UInt8) (hx : xs.length + s.length ≤ 140737488355200) (h : Wr w b xs) :
    Calls Try.prog 55 #[.pointer (some ⟨b, 0, none⟩), str s] w fun e w' =>
      e = .returned (.tuple #[]) ∧ Wr w' b (xs ++ putText s) ∧ Below b w w' := by
  have HN := Lib.hid (writer_number s.length (by omega) (by omega) h)
  have hl := putNum_len10 (n := s.length) (by omega)
  clear h
  go_enter Try.func55, Try.ntmps55
  go_wp2_with fail
  refine HN.out.mono ?_
  rintro e w1 ⟨rfl, hw1, hb1⟩
  obtain ⟨v, hb, hown⟩ := hw1
  have c0 := cell_of_one hb
  have f0 := free_of_one hb
  have Hb := Lib.hid hb
  have Ho := Lib.hid hown
  have Hb1 := Lib.hid hb1
  have hsz : b + 1 ≤ w1.heap.size := lt_of_block hb
  clear hb hown hb1 HN
  have hm : (xs ++ putNum s.length).length + s.length ≤ 140737488355300 := by rw [List.length_append]; omega
  have Hm := Lib.hid hm
  clear hm hx hl
  go_wp2_with (at_builtin; refine wpList_append_src rfl _ _ 35 9 rfl (b + 1) 5 (.int .u8 0) 1 1 Try.underlying35 info_u8 rfl _ _ _ rfl Ho.out _ s.length (s.map bval) rfl (src_str Try.underlying9 s) (by have := Hm.out; unfold maxLen; omega) (by have := Hm.out; omega) hsz ?_)
  intro v' w2 ho hg
  obtain ⟨ao, co, rfl⟩ := owns_slice ho
  have ho' : w2.ownsRow (b + 1) 5 1 (.slice ao (xs.length + (putNum s.length).length + s.length) co) ((xs ++ putNum s.length) ++ s).length (((xs ++ putNum s.length) ++ s).map bval) := by
    have e1 : ((xs ++ putNum s.length) ++ s).length = xs.length + (putNum s.length).length + s.length := by simp only [List.length_append]
    have e2 : ((xs ++ putNum s.length) ++ s).map bval = xs.map bval ++ ((putNum s.length).map bval ++ s.map bval) := by simp
    rw [e1, e2]
    exact ho
  obtain ⟨c1, f1, hw2, hb2⟩ := Wr.stored Hb.out Ho.out ho' hg
  have e1 : (xs ++ putNum s.length) ++ s = xs ++ putText s := by rw [putText, List.append_assoc]
  rw [e1] at hw2
  have Hw := Lib.hid hw2
  have Hb2 := Lib.hid hb2
  clear ho ho' hg hw2 hb2 e1 c0 f0
  go_wp2_with fail
  go_end0
  exact ⟨rfl, Hw.out, Hb1.out.trans Hb2.out⟩
end Go.Proofs.Ytjlhlmnoomiblaa

namespace Go.Proofs.Ytjlhlmnoomiblaa
open Go.RowKit Wm Mm
set_option linter.unusedVariables false

/-- all blocks but b that hold no bytes are as they were -/
def Keeps (b : Nat) (w w' : World) : Prop := ∀ (k : Nat) (T : TypeId) (os : Array Value), k ≠ b → T ≠ 5 → w.heap[k]? = some (.cells os T (0, 0)) → w'.heap[k]? = some (.cells os T (0, 0))
def BK (b : Nat) (w w' : World) : Prop := Below b w w' ∧ Keeps b w w'
theorem BK.refl (b : Nat) (w : World) : BK b w w := ⟨Below.refl _ _, fun _ _ _ _ _ h => h⟩
theorem BK.trans {b : Nat} {w w1 w2 : World} (h : BK b w w1) (h2 : BK b w1 w2) : BK b w w2 := ⟨h.1.trans h2.1, fun k T os hk hT hw => h2.2 k T os hk hT (h.2 k T os hk hT hw)⟩
theorem BK.alloc {b : Nat} {w : World} (o : Obj) (hb : b ≤ w.heap.size) : BK b w (w.alloc o) :=
  ⟨(Below.refl _ _).alloc hb _, fun k T os hk hT hw => (hp_past _ _ (by have := lt_of_block hw; omega)).trans hw⟩

theorem Wr.stored2 {w w1 : World} {b n : Nat} {v v' : Value} {ys : List Value} {xs : List UInt8} (hb : w.heap[b]? = some (.cells #[v] 99 (0, 0))) (ho : w.ownsRow (b + 1) 5 1 v n ys)
    (ho' : w1.ownsRow (b + 1) 5 1 v' xs.length (xs.map bval)) (hg : w.grownBy w1 v.ownBlock) :
    w1.cell? ⟨b, 0, none⟩ = some v ∧ w1.frozen? ⟨b, 0, none⟩ = false ∧ Wr (w1.setCell ⟨b, 0, none⟩ v') b xs ∧ BK b w (w1.setCell ⟨b, 0, none⟩ v') := by
  obtain ⟨h1, h2, h3, h4⟩ := Wr.stored hb ho ho' hg
  refine ⟨h1, h2, h3, h4, fun k T os hk hT hw => ?_⟩
  have hne : some k ≠ v.ownBlock := by
    intro e
    rcases ho.2 with ⟨rfl, _⟩ | ⟨g, cap, cur, rfl, _, hg, _⟩
    · cases e
    · cases e
      rw [hw] at hg
      cases hg
      exact hT rfl
  exact hp_set_other ((hg.block k (lt_of_block hw) hne).trans hw) (fun e => hk e.symm)

set_option maxHeartbeats 1000000 in
theorem writer_number_k {w : World} {b : Nat} {xs : List UInt8} (n : Nat) (hn : n < 9223372036854775808) (hx : xs.length ≤ 140737488355300) (h : Wr w b xs) :
    Calls Try.prog 41 #[.pointer (some ⟨b, 0, none⟩), .int .i64 n] w fun e w' =>
      e = .returned (.tuple #[]) ∧ Wr w' b (xs ++ putNum n) ∧ BK b w w' := by
  obtain ⟨tot, ht⟩ := hide (xs ++ putNum n)
  rw [ht.out]
  have hl : tot.length ≤ 140737488355320 := by
    rw [← ht.out, List.length_append]
    have := putNum_len10 hn
    omega
  have Hl := Lib.hid hl
  clear hl hx
  have H := Lib.hid h
  clear h
  go_enter Try.func41, Try.ntmps41
  go_wp2
  go_loopw [1] (fun m wr => ∃ k : Nat, ∃ ys : List UInt8, m = .int .i64 k ∧ Hid (Wr wr b ys) ∧ Hid (BK b w wr) ∧ Hid (ys ++ putNum k = tot) ∧ k < 9223372036854775808)
    (fun m _ => (intOf m).toNat)
  case atStart => exact ⟨n, xs, rfl, H, BK.refl _ _, ht, hn⟩
  case round =>
    obtain ⟨k, ys, rfl, hw, hbel, heq, hk⟩ := hrel
    obtain ⟨v, hb, hown⟩ := hw.out
    have c0 := cell_of_one hb
    have f0 := free_of_one hb
    have Hb := Lib.hid hb
    have Ho := Lib.hid hown
    have hsz : b + 1 ≤ wr.heap.size := lt_of_block hb
    clear hb hown
    have hyl : ys.length + 1 ≤ 140737488355320 := by
      have h1 := Hl.out
      rw [← heq.out, List.length_append] at h1
      have : 1 ≤ (putNum k).length := by
        by_cases hk1 : k < 128
        · rw [putNum_small hk1]; simp
        · rw [putNum_big hk1]; simp
      omega
    by_cases hk1 : k < 128
    · have hd : decide ((127 : Int) < (k : Int)) = false := decide_eq_false (by omega)
      go_wp2_with (at_builtin; refine wpList_push rfl _ _ 35 rfl (b + 1) 5 (.int .u8 0) 1 1 Try.underlying35 info_u8 rfl (by decide) _ _ _ rfl Ho.out _ rfl rfl (by intro u hu; simp at hu; subst hu; rfl) (by unfold maxLen; omega) (by omega) hsz ?_)
      intro v' w1 ho hg
      obtain ⟨ao, co, rfl⟩ := owns_slice ho
      have ho' : w1.ownsRow (b + 1) 5 1 (.slice ao (ys.length + 1) co) (ys ++ [UInt8.ofNat k]).length ((ys ++ [UInt8.ofNat k]).map bval) := by
        rw [List.map_append, List.length_append, List.map_cons, List.map_nil, bval_ofNat k (by omega)]
        exact ho
      obtain ⟨c1, f1, hw1, hb1⟩ := Wr.stored2 Hb.out Ho.out ho' hg
      have e1 : ys ++ [UInt8.ofNat k] = tot := by rw [← heq.out, putNum_small hk1]
      rw [e1] at hw1
      have Hw := Lib.hid hw1
      have Hb1 := Lib.hid hb1
      clear ho ho' hg hw1 hb1 e1 c0 f0 hk1
      go_wp2_with fail
      go_end0
      exact ⟨rfl, Hw.out, hbel.out.trans Hb1.out⟩
    · have hd : decide ((127 : Int) < (k : Int)) = true := decide_eq_true (by omega)
      have hor : bits .or .u8 ((k : Int) % 256) 128 = ((128 + k % 128 : Nat) : Int) := by
        have h1 := u8_or_nat (k % 256) 128 (by omega) (by decide)
        have h2 : ∀ x, x < 256 → x ||| 128 = 128 + x % 128 := by decide +kernel
        rw [h2 _ (by omega), Nat.mod_mod_of_dvd _ (by decide)] at h1
        simpa using h1
      have Hor := Lib.hid hor
      go_wp2_with (at_builtin; refine wpList_push rfl _ _ 35 rfl (b + 1) 5 (.int .u8 0) 1 1 Try.underlying35 info_u8 rfl (by decide) _ _ _ rfl Ho.out _ rfl rfl (by intro u hu; simp at hu; subst hu; rfl) (by unfold maxLen; omega) (by omega) hsz ?_)
      intro v' w1 ho hg
      obtain ⟨ao, co, rfl⟩ := owns_slice ho
      have ho' : w1.ownsRow (b + 1) 5 1 (.slice ao (ys.length + 1) co) (ys ++ [UInt8.ofNat (128 + k % 128)]).length ((ys ++ [UInt8.ofNat (128 + k % 128)]).map bval) := by
        rw [List.map_append, List.length_append, List.map_cons, List.map_nil, bval_ofNat _ (by omega)]
        exact ho
      obtain ⟨c1, f1, hw1, hb1⟩ := Wr.stored2 Hb.out Ho.out ho' hg
      have e1 : (ys ++ [UInt8.ofNat (128 + k % 128)]) ++ putNum (k / 128) = tot := by rw [← heq.out, putNum_big hk1]; simp
      have Hw := Lib.hid hw1
      have Hb1 := Lib.hid hb1
      have He := Lib.hid e1
      clear ho ho' hg hw1 hb1 e1 c0 f0
      go_wp2_with fail
      go_roundw
      case rel => exact ⟨k / 128, _, by go_num, Hw, hbel.out.trans Hb1.out, He, by omega⟩
      case measure => simp [intOf]; omega

set_option maxHeartbeats 400000 in
theorem writer_text_k {w : World} {b : Nat} {xs : List UInt8} (s : List UInt8) (hx : xs.length + s.length ≤ 140737488355200) (h : Wr w b xs) :
    Calls Try.prog 55 #[.pointer (some ⟨b, 0, none⟩), str s] w fun e w' =>
      e = .returned (.tuple #[]) ∧ Wr w' b (xs ++ putText s) ∧ BK b w w' := by
  have HN := Lib.hid (writer_number_k s.length (by omega) (by omega) h)
  have hl := putNum_len10 (n := s.length) (by omega)
  clear h
  go_enter Try.func55, Try.ntmps55
  go_wp2_with fail
  refine HN.out.mono ?_
  rintro e w1 ⟨rfl, hw1, hb1⟩
  obtain ⟨v, hb, hown⟩ := hw1
  have c0 := cell_of_one hb
  have f0 := free_of_one hb
  have Hb := Lib.hid hb
  have Ho := Lib.hid hown
  have Hb1 := Lib.hid hb1
  have hsz : b + 1 ≤ w1.heap.size := lt_of_block hb
  clear hb hown hb1 HN
  have hm : (xs ++ putNum s.length).length + s.length ≤ 140737488355300 := by rw [List.length_append]; omega
  have Hm := Lib.hid hm
  clear hm hx hl
  go_wp2_with (at_builtin; refine wpList_append_src rfl _ _ 35 9 rfl (b + 1) 5 (.int .u8 0) 1 1 Try.underlying35 info_u8 rfl _ _ _ rfl Ho.out _ s.length (s.map bval) rfl (src_str Try.underlying9 s) (by have := Hm.out; unfold maxLen; omega) (by have := Hm.out; omega) hsz ?_)
  intro v' w2 ho hg
  obtain ⟨ao, co, rfl⟩ := owns_slice ho
  have ho' : w2.ownsRow (b + 1) 5 1 (.slice ao (xs.length + (putNum s.length).length + s.length) co) ((xs ++ putNum s.length) ++ s).length (((xs ++ putNum s.length) ++ s).map bval) := by
    have e1 : ((xs ++ putNum s.length) ++ s).length = xs.length + (putNum s.length).length + s.length := by simp only [List.length_append]
    have e2 : ((xs ++ putNum s.length) ++ s).map bval = xs.map bval ++ ((putNum s.length).map bval ++ s.map bval) := by simp
    rw [e1, e2]
    exact ho
  obtain ⟨c1, f1, hw2, hb2⟩ := Wr.stored2 Hb.out Ho.out ho' hg
  have e1 : (xs ++ putNum s.length) ++ s = xs ++ putText s := by rw [putText, List.append_assoc]
  rw [e1] at hw2
  have Hw := Lib.hid hw2
  have Hb2 := Lib.hid hb2
  clear ho ho' hg hw2 hb2 e1 c0 f0
  go_wp2_with fail
  go_end0
  exact ⟨rfl, Hw.out, Hb1.out.trans Hb2.out⟩
end Go.Proofs.Ytjlhlmnoomiblaa

namespace Go.Proofs.Ytjlhlmnoomiblaa
open Go.RowKit Wm Mm
set_option linter.unusedVariables false

theorem toStr1 (x : Int) (w : World) : (convert 35 9 (.slice (some ⟨w.heap.size, 0, none⟩) 1 1)).run Try.prog (w.alloc (.cells #[.int .u8 x] 5)) =
    .ok (str [UInt8.ofNat x.toNat]) (w.alloc (.cells #[.int .u8 x] 5)) :=
  run_toStr_new w _ _ _ 1 1 [x] rfl Try.underlying35 Try.underlying5 Try.underlying9

end Go.Proofs.Ytjlhlmnoomiblaa
