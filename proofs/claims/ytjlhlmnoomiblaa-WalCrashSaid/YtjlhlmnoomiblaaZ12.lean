/-
  Numbers, one behind the other, of all bytes: the panicking reader's way. Reading of all bytes, numbers: what the caller gets.
-/
import Derived.Test.YtjlhlmnoomiblaaZ11
namespace Go.Proofs.Ytjlhlmnoomiblaa
open Go.RowKit Wm Mm
set_option linter.unusedVariables false

theorem info_int : (Try.prog.info? 3).map (fun i => (i.zero, i.size, i.bytes)) = some (some (.int .i64 0), 1, 8) := by kernel_rfl

/-- how a reading call ends whose result is a slice of numbers, made behind block base -/
def GetsInts (base b : Nat) (w : World) (res : Res (List Nat)) (e : Ending) (w' : World) : Prop :=
  match res with
  | .ok (l, t) => ∃ v, e = .returned v ∧ w'.ownsRow base 3 1 v l.length (l.map vNat) ∧ Rd w' b t ∧ w.grownBy w' (some b)
  | .error z => e = stopped z ∧ w.grownBy w' (some b)

set_option maxHeartbeats 1000000 in
theorem getNumbers_f (b bc n : Nat) (s : List UInt8) (w : World) (hn : n ≤ 1000000) (h : Rd w b s) (hc : w.cell? ⟨bc, 0, none⟩ = some (.int .i64 n)) :
    Calls Try.prog 46 #[.pointer (some ⟨b, 0, none⟩), .pointer (some ⟨bc, 0, none⟩)] w (GetsInts w.heap.size b w (rdMany n [] s)) := by
  obtain ⟨res, HR⟩ := hide (rdMany n [] s)
  rw [HR.out]
  have hblt : b < w.heap.size := lt_of_block h.1
  obtain ⟨B, hB⟩ := hide w.heap.size
  have H := Lib.hid h
  rw [hB.out] at hblt ⊢
  go_enter Try.func46, Try.ntmps46
  go_wp2
  go_loopw [3, 5] (fun v i wr => ∃ k : Nat, ∃ acc : List Nat, ∃ u : List UInt8, i = .int .i64 k ∧ k ≤ n ∧ Hid (acc.length = k) ∧ Hid (Rd wr b u) ∧ Hid (w.grownBy wr (some b)) ∧ Hid (wr.ownsRow B 3 1 v acc.length (acc.map vNat)) ∧ Hid (rdMany (n - k) acc u = res))
    (fun _ i _ => n - (intOf i).toNat)
  case atStart => exact ⟨0, [], s, rfl, Nat.zero_le _, rfl, H, World.grownBy.refl _ _, World.ownsRow_nil _ _ _ _, HR⟩
  case round =>
    obtain ⟨k, acc, u, rfl, hk, hl, hr, hg, ho, hm⟩ := hrel
    by_cases hlt : k < n
    · go_wp2_with fail
      refine (number_rd hr.out).mono ?_
      intro e w1 hp
      have hm2 := hm.out
      rw [show n - k = (n - (k + 1)) + 1 from by omega, rdMany] at hm2
      cases hx : rdNum u with
      | error z =>
        rw [hx] at hp hm2
        obtain ⟨rfl, hg1⟩ := hp
        have Hg := Lib.hid (grown_trans hg.out hg1)
        have e1 : .error z = res := hm2
        subst e1
        clear hg1 hx hm2
        go_wp2_with fail
        exact ⟨rfl, rfl, Hg.out⟩
      | ok p =>
        obtain ⟨x, t⟩ := p
        rw [hx] at hp hm2
        obtain ⟨rfl, hr1, hg1⟩ := hp
        have Hm2 := Lib.hid hm2
        have Hr1 := Lib.hid hr1
        have Hg1 := Lib.hid (grown_trans hg.out hg1)
        have Ho1 := Lib.hid (ho.out.kept hg1 (Or.inr (own_other ho.out hblt).symm))
        have hBs : B ≤ w1.heap.size := by rw [← hB.out]; exact Nat.le_trans hg.out.size hg1.size
        have Hal : Hid (acc.length + 1 ≤ 1000001) := by have := hl.out; show _ ≤ _; omega
        clear hr1 hg1 hm2 hx
        go_wp2_with (at_builtin; refine wpList_push rfl _ _ 22 rfl B 3 (.int .i64 0) 1 8 Try.underlying22 info_int rfl (by decide) _ _ _ rfl Ho1.out _ rfl rfl (by intro u hu; simp at hu; subst hu; rfl) (by have := Hal.out; unfold maxLen; omega) (by have := Hal.out; omega) hBs ?_)
        intro v' w2 ho2 hg2
        have Hr2 := Lib.hid (Hr1.out.kept hg2 (own_other Ho1.out hblt))
        have Hg2 := Lib.hid (grown_own Hg1.out Ho1.out (by rw [hB.out]; exact Nat.le_refl _) hg2)
        have Ho2 : Hid (w2.ownsRow B 3 1 v' (acc ++ [x]).length ((acc ++ [x]).map vNat)) := by
          show _
          have e1 : (acc ++ [x]).length = acc.length + 1 := by simp
          have e2 : (acc ++ [x]).map vNat = acc.map vNat ++ [.int .i64 x] := by simp
          rw [e1, e2]; exact ho2
        clear ho2 hg2
        go_wp2_with fail
        go_roundw
        case rel => exact ⟨k + 1, acc ++ [x], t, by go_num, by omega, by have := hl.out; show _ = _; simp [this], Hr2, Hg2, Ho2, Hm2⟩
        case measure => simp [intOf]; omega
    · have hkn : k = n := by omega
      have e1 : .ok (acc, u) = res := by rw [← hm.out, show n - k = 0 from by omega]; rfl
      subst e1
      have Hkn := Lib.hid hkn
      clear hkn
      go_wp2_with fail
      go_ret
      exact ⟨_, rfl, ho.out, hr.out, hg.out⟩
end Go.Proofs.Ytjlhlmnoomiblaa

namespace Go.Proofs.Ytjlhlmnoomiblaa
open Go.RowKit Wm Mm
set_option linter.unusedVariables false

/-- what a reading of all bytes hands back -/
def GotInts (w : World) (res : Except Int (List Nat)) (e : Ending) (w' : World) : Prop :=
  match res with
  | .ok l => ∃ v, e = .returned (.tuple #[v, .int .i64 0]) ∧ w'.ownsRow w.heap.size 3 1 v l.length (l.map vNat) ∧ Below w.heap.size w w'
  | .error z => e = .returned (.tuple #[.slice none 0 0, .int .i64 z]) ∧ Below w.heap.size w w'

set_option maxHeartbeats 1000000 in
theorem read_ints (bc n : Nat) (s : List UInt8) (w : World) (hn : n ≤ 1000000) (hs : s.length ≤ 9223372036854775807) (hc : w.cell? ⟨bc, 0, none⟩ = some (.int .i64 n)) :
    Calls Try.prog 45 #[str s, .func (.func 46) #[] #[.pointer (some ⟨bc, 0, none⟩)]] w (GotInts w (full (rdMany n [] s))) := by
  have hmf : ∀ (fn : Fn) (first cap : Array Value) (w : World), (Instr.makeFunc fn first cap).run Try.prog w = .ok (.func fn first cap) w := fun _ _ _ _ => rfl
  have hbc : bc < w.heap.size := World.block_lt_of_cell? _ _ hc
  obtain ⟨res, HR⟩ := hide (rdMany n [] s)
  rw [HR.out]
  go_enter_defers Try.func45, Try.ntmps45
  go_wp2_with fail
  obtain ⟨W3, hW⟩ := hide (((w.alloc (.cells #[.slice none 0 0] 22)).alloc (.cells #[.int .i64 0] 49)).alloc (.cells #[str s] 80))
  rw [hW.out]
  have Hx : Hid (W3.heap[w.heap.size]? = some (.cells #[.slice none 0 0] 22 (0, 0))) := by
    rw [← hW.out]; exact (hp_past _ _ (by simp only [World.size_alloc]; omega)).trans ((hp_past _ _ (by simp only [World.size_alloc]; omega)).trans (hp_at _ _ rfl))
  have He : Hid (W3.heap[w.heap.size + 1]? = some (.cells #[.int .i64 0] 49 (0, 0))) := by
    rw [← hW.out]; exact (hp_past _ _ (by simp only [World.size_alloc]; omega)).trans (hp_at _ _ (by simp only [World.size_alloc]))
  have Hr : Hid (Rd W3 (w.heap.size + 1 + 1) s) := by
    rw [← hW.out]; exact ⟨hp_at _ _ (by simp only [World.size_alloc]), hs⟩
  have Hb : Hid (Below w.heap.size w W3) := by
    rw [← hW.out]
    exact (((Below.refl _ _).alloc (Nat.le_refl _) _).alloc (by simp) _).alloc (by simp; omega) _
  have hc3 : W3.cell? ⟨bc, 0, none⟩ = some (.int .i64 n) := by rw [Hb.out.cell (p := ⟨bc, 0, none⟩) hbc]; exact hc
  have hsz : W3.heap.size = w.heap.size + 3 := by rw [← hW.out]; simp
  have Hsz := Lib.hid hsz
  refine (getNumbers_f (w.heap.size + 1 + 1) bc n s W3 hn Hr.out hc3).mono ?_
  rw [HR.out]
  clear hc hc3 hsz
  intro e w1 hp
  cases res with
  | error z =>
    obtain ⟨rfl, hg⟩ := hp
    have hx1 := (hg.block w.heap.size (by rw [Hsz.out]; omega) (by simp; omega)).trans Hx.out
    have he1 := (hg.block (w.heap.size + 1) (by rw [Hsz.out]; omega) (by simp)).trans He.out
    have hb1 : Below w.heap.size w w1 := Hb.out.trans ⟨hg.os, hg.tape, hg.output, hg.size, fun k hk => hg.block k (by rw [Hsz.out]; omega) (by simp; omega)⟩
    have Hx1 := Lib.hid hx1
    have He1 := Lib.hid he1
    have Hb1 := Lib.hid hb1
    clear hg hx1 he1 hb1
    go_wp2_with fail
    refine leaves_cons (f := 56) (args := #[.pointer (some ⟨w.heap.size, 0, none⟩), .pointer (some ⟨w.heap.size + 1, 0, none⟩)]) (by simp) (by simp [go_sem]) ?_
    refine (catch_ints w.heap.size _ 0 z w1 Hx1.out He1.out).mono ?_
    rintro e u' w2 ⟨rfl, rfl, hx2, he2, hb2⟩
    have c1 := cell_of_one hx2
    have c2 := cell_of_one he2
    have Hb2 := Lib.hid (Hb1.out.trans hb2)
    clear hx2 he2 hb2
    simp [Leaves, settle, results, Try.results45, go_sem, c1, c2, GotInts, full]
    exact Hb2.out
  | ok p =>
    obtain ⟨l, t⟩ := p
    obtain ⟨v, rfl, ho, hr1, hg⟩ := hp
    obtain ⟨ao, co, rfl⟩ := owns_slice ho
    have hx1 := (hg.block w.heap.size (by rw [Hsz.out]; omega) (by simp; omega)).trans Hx.out
    have he1 := (hg.block (w.heap.size + 1) (by rw [Hsz.out]; omega) (by simp)).trans He.out
    have hb1 : Below w.heap.size w w1 := Hb.out.trans ⟨hg.os, hg.tape, hg.output, hg.size, fun k hk => hg.block k (by rw [Hsz.out]; omega) (by simp; omega)⟩
    have cx := cell_of_one hx1
    have fx := free_of_one hx1
    have cr := hr1.cell
    have fe := free_of_one he1
    have ce := cell_of_one he1
    have Hx1 := Lib.hid hx1
    have He1 := Lib.hid he1
    have Hb1 := Lib.hid hb1
    have Ho := Lib.hid ho
    clear hg hx1 he1 hb1 ho hr1
    cases t with
    | cons y t =>
      go_wp2_with (go_at_call 30; refine (fail_any _ _).mono ?_; rintro e w' ⟨rfl, rfl⟩)
      refine leaves_cons (f := 56) (args := #[.pointer (some ⟨w.heap.size, 0, none⟩), .pointer (some ⟨w.heap.size + 1, 0, none⟩)]) (by simp) (by simp [go_sem]) ?_
      refine (catch_ints w.heap.size _ 0 1 _ (one_setCell Hx1.out) (hp_set_other He1.out (by simp))).mono ?_
      rintro e u' w2 ⟨rfl, rfl, hx2, he2, hb2⟩
      have c1 := cell_of_one hx2
      have c2 := cell_of_one he2
      have Hb2 := Lib.hid ((Hb1.out.setCell (p := ⟨w.heap.size, 0, none⟩) (Nat.le_refl _) (.slice ao l.length co)).trans hb2)
      clear hx2 he2 hb2
      simp [Leaves, settle, results, Try.results45, go_sem, c1, c2, GotInts, full]
      exact Hb2.out
    | nil =>
      go_wp2_with fail
      rw [setCell_twice]
      have hx2 := one_setCell (u := .slice ao l.length co) Hx1.out
      have he2 := hp_set_other (a := ⟨w.heap.size, 0, none⟩) (v := .slice ao l.length co) He1.out (by simp)
      have he3 := one_setCell (u := .int .i64 0) he2
      have hx3 := hp_set_other (a := ⟨w.heap.size + 1, 0, none⟩) (v := .int .i64 0) hx2 (by simp)
      have hb3 := (Hb1.out.setCell (p := ⟨w.heap.size, 0, none⟩) (Nat.le_refl _) (.slice ao l.length co)).setCell (p := ⟨w.heap.size + 1, 0, none⟩) (Nat.le_succ _) (.int .i64 0)
      have hlt := (Ho.out).lt
      have ho3 := ownsRow_setCell_other (ownsRow_setCell_other Ho.out (a := ⟨w.heap.size, 0, none⟩) (fun e => by have := (hlt _ e).1; have := Hsz.out; simp at *; omega) (.slice ao l.length co)) (a := ⟨w.heap.size + 1, 0, none⟩) (fun e => by have := (hlt _ e).1; have := Hsz.out; simp at *; omega) (.int .i64 0)
      obtain ⟨W4, hW4⟩ := hide ((w1.setCell ⟨w.heap.size, 0, none⟩ (.slice ao l.length co)).setCell ⟨w.heap.size + 1, 0, none⟩ (.int .i64 0))
      rw [hW4.out] at he3 hx3 hb3 ho3 ⊢
      refine leaves_cons (f := 56) (args := #[.pointer (some ⟨w.heap.size, 0, none⟩), .pointer (some ⟨w.heap.size + 1, 0, none⟩)]) (by simp) (by simp [go_sem]) ?_
      refine (idle_ints _ _ _).mono ?_
      rintro e u' w2 ⟨rfl, rfl, rfl⟩
      have c1 := cell_of_one ((hp_past W4 (.cells #[.int .i64 0] 76) (fun e => by have := lt_of_block hx3; omega)).trans hx3)
      have c2 := cell_of_one ((hp_past W4 (.cells #[.int .i64 0] 76) (fun e => by have := lt_of_block he3; omega)).trans he3)
      refine ⟨_, by simp [results, Try.results45, go_sem, c1, c2]; rfl, ?_⟩
      refine ⟨_, rfl, own_base (ho3.alloc _) (by rw [Hsz.out]; omega), hb3.alloc hb3.size _⟩
end Go.Proofs.Ytjlhlmnoomiblaa
