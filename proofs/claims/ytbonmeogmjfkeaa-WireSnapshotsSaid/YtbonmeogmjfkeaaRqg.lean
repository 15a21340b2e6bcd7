/-
  Reading requests, the panicking reader's way.
-/
import Derived.Test.YtbonmeogmjfkeaaRqp
import Derived.Test.YtbonmeogmjfkeaaRp
import Derived.Test.YtbonmeogmjfkeaaCatch
import Derived.Handy
namespace Go.Proofs.Ytbonmeogmjfkeaa
open Go.RowKit Wm Mm
set_option linter.unusedVariables false

theorem four_free {w : World} {b i : Nat} {x0 x1 x2 x3 : Value} {t : TypeId} (h : w.heap[b]? = some (.cells #[x0, x1, x2, x3] t (0, 0))) : w.frozen? ⟨b, i, none⟩ = false := by simp [World.frozen?, h]
theorem four_set {w : World} {b : Nat} {x0 x1 x2 x3 : Value} {t : TypeId} (h : w.heap[b]? = some (.cells #[x0, x1, x2, x3] t (0, 0))) (y0 y1 y2 y3 : Value) :
    ((((w.setCell ⟨b, 0, none⟩ y0).setCell ⟨b, 1, none⟩ y1).setCell ⟨b, 2, none⟩ y2).setCell ⟨b, 3, none⟩ y3).heap[b]? = some (.cells #[y0, y1, y2, y3] t (0, 0)) := by
  simp [heap_setCell, h, storeIn]
theorem grown_fresh {w w1 : World} {r : Option Nat} (h : w.grownBy w1 r) {a : Addr} (ha : w.heap.size ≤ a.block) (v : Value) : w.grownBy (w1.setCell a v) r :=
  ⟨h.os, h.tape, h.output, by simpa using h.size, fun k hk hn => by rw [heap_setCell, if_neg (by omega)]; exact h.block k hk hn⟩
theorem Rd.setOther {w : World} {b : Nat} {s : List UInt8} (h : Rd w b s) {a : Addr} (ha : a.block ≠ b) (v : Value) : Rd (w.setCell a v) b s := ⟨hp_set_other h.1 ha, h.2⟩

structure Cmd where
  kind : Nat
  key : List UInt8
  val : List UInt8
  iff : Nat
abbrev vC (c : Cmd) : Value := vCmd c.kind c.key c.val c.iff
def rdCmd (s : List UInt8) : Res Cmd :=
  match rdNum s with
  | .error z => .error z
  | .ok (k, s1) => match rdText 16 s1 with
    | .error z => .error z
    | .ok (key, s2) => match rdText 64 s2 with
      | .error z => .error z
      | .ok (val, s3) => match rdNum s3 with
        | .error z => .error z
        | .ok (i, s4) => .ok (⟨k, key, val, i⟩, s4)

set_option maxHeartbeats 1000000 in
theorem command_rd {b : Nat} {s : List UInt8} {w : World} (h : Rd w b s) :
    Calls Try.prog 100 #[.pointer (some ⟨b, 0, none⟩)] w (Gets b w vC (rdCmd s)) := by
  obtain ⟨res, HR⟩ := hide (rdCmd s)
  rw [HR.out]
  have hbw : b < w.heap.size := lt_of_block h.1
  obtain ⟨W1, hW⟩ := hide (w.alloc (.cells #[.int .i64 0, str [], str [], .int .i64 0] 83))
  have hc : W1.heap[w.heap.size]? = some (.cells #[.int .i64 0, str [], str [], .int .i64 0] 83 (0, 0)) := by rw [← hW.out]; exact hp_at _ _ rfl
  have hg : w.grownBy W1 (some b) := by rw [← hW.out]; exact World.grownBy_alloc w _ _
  have hr : Rd W1 b s := h.kept (by rw [← hW.out]; exact World.grownBy_alloc w _ none) (by simp)
  have Hc := Lib.hid hc
  have Hg := Lib.hid hg
  have Hr := Lib.hid hr
  have Hne : Hid (some w.heap.size ≠ some b) := by show _ ≠ _; simp; omega
  have Hs : Hid (w.heap.size < W1.heap.size) := lt_of_block hc
  clear hc hg hr h hbw
  go_enter Try.func100, Try.ntmps100
  go_wp2_with fail
  rw [hW.out]
  refine (number_rd Hr.out).mono ?_
  intro e w1 hp
  unfold rdCmd at HR
  cases hx : rdNum s with
  | error z =>
    rw [hx] at hp
    obtain rfl : .error z = res := by have := HR.out; simpa [hx] using this
    obtain ⟨rfl, hg⟩ := hp
    have Hg1 := Lib.hid (grown_trans Hg.out hg)
    clear hg hx
    go_wp2_with fail
    exact ⟨rfl, rfl, Hg1.out⟩
  | ok p =>
    obtain ⟨k, s1⟩ := p
    rw [hx] at hp
    obtain ⟨rfl, hr, hg⟩ := hp
    have Hr1 := Lib.hid hr
    have Hc1 := Lib.hid ((hg.block _ Hs.out Hne.out).trans Hc.out)
    have Hs1 := Lib.hid (Nat.lt_of_lt_of_le Hs.out hg.size)
    have Hg1 := Lib.hid (grown_trans Hg.out hg)
    have HR1 := HR.out
    rw [hx] at HR1
    simp only [] at HR1
    clear hr hg hx
    go_wp2_with fail
    refine (text_rd 16 (by decide) Hr1.out).mono ?_
    intro e w2 hp
    cases hx : rdText 16 s1 with
    | error z =>
      rw [hx] at hp HR1
      subst HR1
      obtain ⟨rfl, hg⟩ := hp
      have Hg2 := Lib.hid (grown_trans Hg1.out hg)
      clear hg hx HR
      go_wp2_with fail
      exact ⟨rfl, rfl, Hg2.out⟩
    | ok p =>
      obtain ⟨key, s2⟩ := p
      rw [hx] at hp HR1
      obtain ⟨rfl, hr, hg⟩ := hp
      have Hr2 := Lib.hid hr
      have Hc2 := Lib.hid ((hg.block _ Hs1.out Hne.out).trans Hc1.out)
      have Hs2 := Lib.hid (Nat.lt_of_lt_of_le Hs1.out hg.size)
      have Hg2 := Lib.hid (grown_trans Hg1.out hg)
      simp only [] at HR1
      clear hr hg hx
      go_wp2_with fail
      refine (text_rd 64 (by decide) Hr2.out).mono ?_
      intro e w3 hp
      cases hx : rdText 64 s2 with
      | error z =>
        rw [hx] at hp HR1
        subst HR1
        obtain ⟨rfl, hg⟩ := hp
        have Hg3 := Lib.hid (grown_trans Hg2.out hg)
        clear hg hx HR
        go_wp2_with fail
        exact ⟨rfl, rfl, Hg3.out⟩
      | ok p =>
        obtain ⟨val, s3⟩ := p
        rw [hx] at hp HR1
        obtain ⟨rfl, hr, hg⟩ := hp
        have Hr3 := Lib.hid hr
        have Hc3 := Lib.hid ((hg.block _ Hs2.out Hne.out).trans Hc2.out)
        have Hs3 := Lib.hid (Nat.lt_of_lt_of_le Hs2.out hg.size)
        have Hg3 := Lib.hid (grown_trans Hg2.out hg)
        simp only [] at HR1
        clear hr hg hx
        go_wp2_with fail
        refine (number_rd Hr3.out).mono ?_
        intro e w4 hp
        cases hx : rdNum s3 with
        | error z =>
          rw [hx] at hp HR1
          subst HR1
          obtain ⟨rfl, hg⟩ := hp
          have Hg4 := Lib.hid (grown_trans Hg3.out hg)
          clear hg hx HR
          go_wp2_with fail
          exact ⟨rfl, rfl, Hg4.out⟩
        | ok p =>
          obtain ⟨i, s4⟩ := p
          rw [hx] at hp HR1
          simp only [] at HR1
          subst HR1
          obtain ⟨rfl, hr, hg⟩ := hp
          have Hr4 := Lib.hid hr
          have hc4 := (hg.block _ Hs3.out Hne.out).trans Hc3.out
          have Hs4 := Lib.hid (Nat.lt_of_lt_of_le Hs3.out hg.size)
          have Hg4 := Lib.hid (grown_trans Hg3.out hg)
          obtain ⟨c0, c1, c2, c3⟩ := four_cells hc4
          have f0 := four_free (i := 0) hc4
          have f1 := four_free (i := 1) hc4
          have f2 := four_free (i := 2) hc4
          have f3 := four_free (i := 3) hc4
          have Hc4 := Lib.hid hc4
          have hne : w.heap.size ≠ b := fun e => Hne.out (congrArg some e)
          clear hr hg hx HR hc4
          go_wp2_with fail
          have h5 := four_set Hc4.out (.int .i64 k) (str key) (str val) (.int .i64 i)
          have hr5 := (((Hr4.out.setOther (a := ⟨w.heap.size, 0, none⟩) hne (.int .i64 k)).setOther (a := ⟨w.heap.size, 1, none⟩) hne (str key)).setOther (a := ⟨w.heap.size, 2, none⟩) hne (str val)).setOther (a := ⟨w.heap.size, 3, none⟩) hne (.int .i64 i)
          have hg5 := grown_fresh (grown_fresh (grown_fresh (grown_fresh Hg4.out (a := ⟨w.heap.size, 0, none⟩) (Nat.le_refl _) (.int .i64 k)) (a := ⟨w.heap.size, 1, none⟩) (Nat.le_refl _) (str key)) (a := ⟨w.heap.size, 2, none⟩) (Nat.le_refl _) (str val)) (a := ⟨w.heap.size, 3, none⟩) (Nat.le_refl _) (.int .i64 i)
          generalize ((((w4.setCell ⟨w.heap.size, 0, none⟩ (.int .i64 k)).setCell ⟨w.heap.size, 1, none⟩ (str key)).setCell ⟨w.heap.size, 2, none⟩ (str val)).setCell ⟨w.heap.size, 3, none⟩ (.int .i64 i)) = W5 at h5 hr5 hg5 ⊢
          clear c0 c1 c2 c3
          obtain ⟨c0, c1, c2, c3⟩ := four_cells h5
          refine bodyPost_ret (by simp [results, Try.results100, go_sem, c0, c1, c2, c3]; rfl) rfl ?_
          exact ⟨rfl, hr5, hg5⟩
end Go.Proofs.Ytbonmeogmjfkeaa
