/-
  Reading requests, the panicking reader's way. Reading requests: the closure.
-/
import Derived.Test.YtcgfbmlmpcfbgaaRqp
import Derived.Test.YtcgfbmlmpcfbgaaRc
import Derived.Handy
import Derived.Deep.Cut
namespace Go.Proofs.Ytcgfbmlmpcfbgaa
open Go.RowKit Wm Mm
set_option linter.unusedVariables false

theorem four_free {w : World} {b i : Nat} {x0 x1 x2 x3 : Value} {t : TypeId} (h : w.heap[b]? = some (.cells #[x0, x1, x2, x3] t (0, 0))) : w.frozen? ⟨b, i, none⟩ = false := by simp [World.frozen?, h]
theorem four_set {w : World} {b : Nat} {x0 x1 x2 x3 : Value} {t : TypeId} (h : w.heap[b]? = some (.cells #[x0, x1, x2, x3] t (0, 0))) (y0 y1 y2 y3 : Value) :
    ((((w.setCell ⟨b, 0, none⟩ y0).setCell ⟨b, 1, none⟩ y1).setCell ⟨b, 2, none⟩ y2).setCell ⟨b, 3, none⟩ y3).heap[b]? = some (.cells #[y0, y1, y2, y3] t (0, 0)) := by
  simp [heap_setCell, h, storeIn]
theorem grown_fresh {w w1 : World} {r : Option Nat} (h : w.grownBy w1 r) {a : Addr} (ha : w.heap.size ≤ a.block) (v : Value) : w.grownBy (w1.setCell a v) r :=
  ⟨h.os, h.tape, h.output, by simpa using h.size, fun k hk hn => by rw [heap_setCell, if_neg (by omega)]; exact h.block k hk hn⟩
theorem Rd.setOther {w : World} {b : Nat} {s : List UInt8} (h : Rd w b s) {a : Addr} (ha : a.block ≠ b) (v : Value) : Rd (w.setCell a v) b s := ⟨hp_set_other h.1 ha, h.2⟩

structure Cmd where
  kind : Nat
  key : List UInt8
  val : List UInt8
  iff : Nat
abbrev vC (c : Cmd) : Value := vCmd c.kind c.key c.val c.iff
def rdCmd (s : List UInt8) : Res Cmd :=
  match rdNum s with
  | .error z => .error z
  | .ok (k, s1) => match rdText 16 s1 with
    | .error z => .error z
    | .ok (key, s2) => match rdText 64 s2 with
      | .error z => .error z
      | .ok (val, s3) => match rdNum s3 with
        | .error z => .error z
        | .ok (i, s4) => .ok (⟨k, key, val, i⟩, s4)

set_option maxHeartbeats 1000000 in
theorem command_rd {b : Nat} {s : List UInt8} {w : World} (h : Rd w b s) :
    Calls Try.prog 24 #[.pointer (some ⟨b, 0, none⟩)] w (Gets b w vC (rdCmd s)) := by
  obtain ⟨res, HR⟩ := hide (rdCmd s)
  rw [HR.out]
  have hbw : b < w.heap.size := lt_of_block h.1
  obtain ⟨W1, hW⟩ := hide (w.alloc (.cells #[.int .i64 0, str [], str [], .int .i64 0] 25))
  have hc : W1.heap[w.heap.size]? = some (.cells #[.int .i64 0, str [], str [], .int .i64 0] 25 (0, 0)) := by rw [← hW.out]; exact hp_at _ _ rfl
  have hg : w.grownBy W1 (some b) := by rw [← hW.out]; exact World.grownBy_alloc w _ _
  have hr : Rd W1 b s := h.kept (by rw [← hW.out]; exact World.grownBy_alloc w _ none) (by simp)
  have Hc := Lib.hid hc
  have Hg := Lib.hid hg
  have Hr := Lib.hid hr
  have Hne : Hid (some w.heap.size ≠ some b) := by show _ ≠ _; simp; omega
  have Hs : Hid (w.heap.size < W1.heap.size) := lt_of_block hc
  clear hc hg hr h hbw
  go_enter Try.func24, Try.ntmps24
  go_wp2_with fail
  rw [hW.out]
  refine (number_rd Hr.out).mono ?_
  intro e w1 hp
  unfold rdCmd at HR
  cases hx : rdNum s with
  | error z =>
    rw [hx] at hp
    obtain rfl : .error z = res := by have := HR.out; simpa [hx] using this
    obtain ⟨rfl, hg⟩ := hp
    have Hg1 := Lib.hid (grown_trans Hg.out hg)
    clear hg hx
    go_wp2_with fail
    exact ⟨rfl, rfl, Hg1.out⟩
  | ok p =>
    obtain ⟨k, s1⟩ := p
    rw [hx] at hp
    obtain ⟨rfl, hr, hg⟩ := hp
    have Hr1 := Lib.hid hr
    have Hc1 := Lib.hid ((hg.block _ Hs.out Hne.out).trans Hc.out)
    have Hs1 := Lib.hid (Nat.lt_of_lt_of_le Hs.out hg.size)
    have Hg1 := Lib.hid (grown_trans Hg.out hg)
    have HR1 := HR.out
    rw [hx] at HR1
    simp only [] at HR1
    clear hr hg hx
    go_wp2_with fail
    refine (text_rd 16 (by decide) Hr1.out).mono ?_
    intro e w2 hp
    cases hx : rdText 16 s1 with
    | error z =>
      rw [hx] at hp HR1
      subst HR1
      obtain ⟨rfl, hg⟩ := hp
      have Hg2 := Lib.hid (grown_trans Hg1.out hg)
      clear hg hx HR
      go_wp2_with fail
      exact ⟨rfl, rfl, Hg2.out⟩
    | ok p =>
      obtain ⟨key, s2⟩ := p
      rw [hx] at hp HR1
      obtain ⟨rfl, hr, hg⟩ := hp
      have Hr2 := Lib.hid hr
      have Hc2 := Lib.hid ((hg.block _ Hs1.out Hne.out).trans Hc1.out)
      have Hs2 := Lib.hid (Nat.lt_of_lt_of_le Hs1.out hg.size)
      have Hg2 := Lib.hid (grown_trans Hg1.out hg)
      simp only [] at HR1
      clear hr hg hx
      go_wp2_with fail
      refine (text_rd 64 (by decide) Hr2.out).mono ?_
      intro e w3 hp
      cases hx : rdText 64 s2 with
      | error z =>
        rw [hx] at hp HR1
        subst HR1
        obtain ⟨rfl, hg⟩ := hp
        have Hg3 := Lib.hid (grown_trans Hg2.out hg)
        clear hg hx HR
        go_wp2_with fail
        exact ⟨rfl, rfl, Hg3.out⟩
      | ok p =>
        obtain ⟨val, s3⟩ := p
        rw [hx] at hp HR1
        obtain ⟨rfl, hr, hg⟩ := hp
        have Hr3 := Lib.hid hr
        have Hc3 := Lib.hid ((hg.block _ Hs2.out Hne.out).trans Hc2.out)
        have Hs3 := Lib.hid (Nat.lt_of_lt_of_le Hs2.out hg.size)
        have Hg3 := Lib.hid (grown_trans Hg2.out hg)
        simp only [] at HR1
        clear hr hg hx
        go_wp2_with fail
        refine (number_rd Hr3.out).mono ?_
        intro e w4 hp
        cases hx : rdNum s3 with
        | error z =>
          rw [hx] at hp HR1
          subst HR1
          obtain ⟨rfl, hg⟩ := hp
          have Hg4 := Lib.hid (grown_trans Hg3.out hg)
          clear hg hx HR
          go_wp2_with fail
          exact ⟨rfl, rfl, Hg4.out⟩
        | ok p =>
          obtain ⟨i, s4⟩ := p
          rw [hx] at hp HR1
          simp only [] at HR1
          subst HR1
          obtain ⟨rfl, hr, hg⟩ := hp
          have Hr4 := Lib.hid hr
          have hc4 := (hg.block _ Hs3.out Hne.out).trans Hc3.out
          have Hs4 := Lib.hid (Nat.lt_of_lt_of_le Hs3.out hg.size)
          have Hg4 := Lib.hid (grown_trans Hg3.out hg)
          obtain ⟨c0, c1, c2, c3⟩ := four_cells hc4
          have f0 := four_free (i := 0) hc4
          have f1 := four_free (i := 1) hc4
          have f2 := four_free (i := 2) hc4
          have f3 := four_free (i := 3) hc4
          have Hc4 := Lib.hid hc4
          have hne : w.heap.size ≠ b := fun e => Hne.out (congrArg some e)
          clear hr hg hx HR hc4
          go_wp2_with fail
          have h5 := four_set Hc4.out (.int .i64 k) (str key) (str val) (.int .i64 i)
          have hr5 := (((Hr4.out.setOther (a := ⟨w.heap.size, 0, none⟩) hne (.int .i64 k)).setOther (a := ⟨w.heap.size, 1, none⟩) hne (str key)).setOther (a := ⟨w.heap.size, 2, none⟩) hne (str val)).setOther (a := ⟨w.heap.size, 3, none⟩) hne (.int .i64 i)
          have hg5 := grown_fresh (grown_fresh (grown_fresh (grown_fresh Hg4.out (a := ⟨w.heap.size, 0, none⟩) (Nat.le_refl _) (.int .i64 k)) (a := ⟨w.heap.size, 1, none⟩) (Nat.le_refl _) (str key)) (a := ⟨w.heap.size, 2, none⟩) (Nat.le_refl _) (str val)) (a := ⟨w.heap.size, 3, none⟩) (Nat.le_refl _) (.int .i64 i)
          generalize ((((w4.setCell ⟨w.heap.size, 0, none⟩ (.int .i64 k)).setCell ⟨w.heap.size, 1, none⟩ (str key)).setCell ⟨w.heap.size, 2, none⟩ (str val)).setCell ⟨w.heap.size, 3, none⟩ (.int .i64 i)) = W5 at h5 hr5 hg5 ⊢
          clear c0 c1 c2 c3
          obtain ⟨c0, c1, c2, c3⟩ := four_cells h5
          refine bodyPost_ret (by simp [results, Try.results24, go_sem, c0, c1, c2, c3]; rfl) rfl ?_
          exact ⟨rfl, hr5, hg5⟩
end Go.Proofs.Ytcgfbmlmpcfbgaa

namespace Go.Proofs.Ytcgfbmlmpcfbgaa
open Go.RowKit Wm Mm
set_option linter.unusedVariables false

structure Req where
  client : Nat
  number : Nat
  cmd : Cmd
  time : Nat
abbrev vR (q : Req) : Value := vReq q.client q.number q.cmd.kind q.cmd.key q.cmd.val q.cmd.iff q.time
def rdReq (s : List UInt8) : Res Req :=
  match rdNum s with
  | .error z => .error z
  | .ok (c, s1) => match rdNum s1 with
    | .error z => .error z
    | .ok (n, s2) => match rdNum s2 with
      | .error z => .error z
      | .ok (t, s3) =>
        if c = 0 then .ok (⟨c, n, ⟨0, [], [], 0⟩, t⟩, s3)
        else match rdCmd s3 with
          | .error z => .error z
          | .ok (m, s4) => if isCommand m.kind m.key m.val m.iff = true then .ok (⟨c, n, m, t⟩, s4) else .error 5

theorem seven_free {w : World} {b i : Nat} {x0 x1 x2 x3 x4 x5 x6 : Value} {t : TypeId} (h : w.heap[b]? = some (.cells #[x0, x1, x2, x3, x4, x5, x6] t (0, 0))) : w.frozen? ⟨b, i, none⟩ = false := by simp [World.frozen?, h]
def set7 (w : World) (b : Nat) (y0 y1 y2 y3 y4 y5 y6 : Value) : World :=
  ((((((w.setCell ⟨b, 0, none⟩ y0).setCell ⟨b, 1, none⟩ y1).setCell ⟨b, 2, none⟩ y2).setCell ⟨b, 3, none⟩ y3).setCell ⟨b, 4, none⟩ y4).setCell ⟨b, 5, none⟩ y5).setCell ⟨b, 6, none⟩ y6
theorem set7_at {w : World} {b : Nat} {x0 x1 x2 x3 x4 x5 x6 : Value} {t : TypeId} (h : w.heap[b]? = some (.cells #[x0, x1, x2, x3, x4, x5, x6] t (0, 0))) (y0 y1 y2 y3 y4 y5 y6 : Value) :
    (set7 w b y0 y1 y2 y3 y4 y5 y6).heap[b]? = some (.cells #[y0, y1, y2, y3, y4, y5, y6] t (0, 0)) := by
  simp [set7, heap_setCell, h, storeIn]
theorem set7_other {w : World} {b k : Nat} {o : Obj} (h : w.heap[k]? = some o) (hk : b ≠ k) (y0 y1 y2 y3 y4 y5 y6 : Value) : (set7 w b y0 y1 y2 y3 y4 y5 y6).heap[k]? = some o := by
  simp [set7, heap_setCell, h, hk]
theorem set7_grown {w w1 : World} {r : Option Nat} (h : w.grownBy w1 r) {b : Nat} (hb : w.heap.size ≤ b) (y0 y1 y2 y3 y4 y5 y6 : Value) : w.grownBy (set7 w1 b y0 y1 y2 y3 y4 y5 y6) r := by
  unfold set7
  iterate 7 refine grown_fresh ?_ (by simpa using hb) _
  exact h
def setMid (w : World) (b : Nat) (y2 y3 y4 y5 : Value) : World :=
  (((w.setCell ⟨b, 2, none⟩ y2).setCell ⟨b, 3, none⟩ y3).setCell ⟨b, 4, none⟩ y4).setCell ⟨b, 5, none⟩ y5
theorem setMid_at {w : World} {b : Nat} {x0 x1 x2 x3 x4 x5 x6 : Value} {t : TypeId} (h : w.heap[b]? = some (.cells #[x0, x1, x2, x3, x4, x5, x6] t (0, 0))) (y2 y3 y4 y5 : Value) :
    (setMid w b y2 y3 y4 y5).heap[b]? = some (.cells #[x0, x1, y2, y3, y4, y5, x6] t (0, 0)) := by
  simp [setMid, heap_setCell, h, storeIn]
theorem setMid_other {w : World} {b k : Nat} {o : Obj} (h : w.heap[k]? = some o) (hk : b ≠ k) (y2 y3 y4 y5 : Value) : (setMid w b y2 y3 y4 y5).heap[k]? = some o := by
  simp [setMid, heap_setCell, h, hk]
theorem setMid_grown {w w1 : World} {r : Option Nat} (h : w.grownBy w1 r) {b : Nat} (hb : w.heap.size ≤ b) (y2 y3 y4 y5 : Value) : w.grownBy (setMid w1 b y2 y3 y4 y5) r := by
  unfold setMid
  iterate 4 refine grown_fresh ?_ (by simpa using hb) _
  exact h
abbrev zero7 : Array Value := #[.int .i64 0, .int .i64 0, .int .i64 0, str [], str [], .int .i64 0, .int .i64 0]

set_option maxHeartbeats 2000000 in
theorem getRequest_f {b : Nat} {s : List UInt8} {w : World} (h : Rd w b s) :
    Calls Try.prog 22 #[.pointer (some ⟨b, 0, none⟩)] w (Gets b w vR (rdReq s)) := by
  obtain ⟨res, HR⟩ := hide (rdReq s)
  rw [HR.out]
  have hbw : b < w.heap.size := lt_of_block h.1
  obtain ⟨W1, hW⟩ := hide (w.alloc (.cells zero7 27))
  have hc : W1.heap[w.heap.size]? = some (.cells zero7 27 (0, 0)) := by rw [← hW.out]; exact hp_at _ _ rfl
  have hg : w.grownBy W1 (some b) := by rw [← hW.out]; exact World.grownBy_alloc w _ _
  have hr : Rd W1 b s := h.kept (by rw [← hW.out]; exact World.grownBy_alloc w _ none) (by simp)
  have Hc := Lib.hid hc
  have Hg := Lib.hid hg
  have Hr := Lib.hid hr
  have Hne : Hid (some w.heap.size ≠ some b) := by show _ ≠ _; simp; omega
  have Hs : Hid (w.heap.size < W1.heap.size) := lt_of_block hc
  have Hbw := Lib.hid hbw
  clear hc hg hr h hbw
  go_enter Try.func22, Try.ntmps22
  go_wp2_with fail
  rw [hW.out]
  refine (number_rd Hr.out).mono ?_
  intro e w1 hp
  unfold rdReq at HR
  cases hx : rdNum s with
  | error z =>
    rw [hx] at hp
    obtain rfl : .error z = res := by have := HR.out; simpa [hx] using this
    obtain ⟨rfl, hg⟩ := hp
    have Hg1 := Lib.hid (grown_trans Hg.out hg)
    clear hg hx
    go_wp2_with fail
    exact ⟨rfl, rfl, Hg1.out⟩
  | ok p =>
    obtain ⟨c, s1⟩ := p
    rw [hx] at hp
    obtain ⟨rfl, hr, hg⟩ := hp
    have Hr1 := Lib.hid hr
    have Hc1 := Lib.hid ((hg.block _ Hs.out Hne.out).trans Hc.out)
    have Hs1 := Lib.hid (Nat.lt_of_lt_of_le Hs.out hg.size)
    have Hg1 := Lib.hid (grown_trans Hg.out hg)
    have HR1 := HR.out
    rw [hx] at HR1
    simp only [] at HR1
    clear hr hg hx
    go_wp2_with fail
    refine (number_rd Hr1.out).mono ?_
    intro e w2 hp
    cases hx : rdNum s1 with
    | error z =>
      rw [hx] at hp HR1
      subst HR1
      obtain ⟨rfl, hg⟩ := hp
      have Hg2 := Lib.hid (grown_trans Hg1.out hg)
      clear hg hx HR
      go_wp2_with fail
      exact ⟨rfl, rfl, Hg2.out⟩
    | ok p =>
      obtain ⟨n, s2⟩ := p
      rw [hx] at hp HR1
      obtain ⟨rfl, hr, hg⟩ := hp
      have Hr2 := Lib.hid hr
      have Hc2 := Lib.hid ((hg.block _ Hs1.out Hne.out).trans Hc1.out)
      have Hs2 := Lib.hid (Nat.lt_of_lt_of_le Hs1.out hg.size)
      have Hg2 := Lib.hid (grown_trans Hg1.out hg)
      simp only [] at HR1
      clear hr hg hx
      go_wp2_with fail
      refine (number_rd Hr2.out).mono ?_
      intro e w3 hp
      cases hx : rdNum s2 with
      | error z =>
        rw [hx] at hp HR1
        subst HR1
        obtain ⟨rfl, hg⟩ := hp
        have Hg3 := Lib.hid (grown_trans Hg2.out hg)
        clear hg hx HR
        go_wp2_with fail
        exact ⟨rfl, rfl, Hg3.out⟩
      | ok p =>
        obtain ⟨t, s3⟩ := p
        rw [hx] at hp HR1
        obtain ⟨rfl, hr, hg⟩ := hp
        have Hr3 := Lib.hid hr
        have Hc3 := Lib.hid ((hg.block _ Hs2.out Hne.out).trans Hc2.out)
        have Hs3 := Lib.hid (Nat.lt_of_lt_of_le Hs2.out hg.size)
        have Hg3 := Lib.hid (grown_trans Hg2.out hg)
        simp only [] at HR1
        have HR1' := Lib.hid HR1
        clear hr hg hx HR1 HR
        have Hne2 : Hid (w3.heap.size ≠ b) := by have := lt_of_block Hr3.out.1; show _ ≠ _; omega
        have Hle : Hid (w.heap.size ≤ w3.heap.size) := by have := Hs3.out; show _ ≤ _; omega
        have fin : ∀ (W : World) (c n k : Nat) (key val : List UInt8) (i t : Nat) (s : List UInt8), W.heap[w.heap.size]? = some (.cells zero7 27 (0, 0)) → Rd W b s → w.grownBy W (some b) →
            (set7 W w.heap.size (.int .i64 c) (.int .i64 n) (.int .i64 k) (str key) (str val) (.int .i64 i) (.int .i64 t)).heap[w.heap.size]? = some (.cells #[.int .i64 c, .int .i64 n, .int .i64 k, str key, str val, .int .i64 i, .int .i64 t] 27 (0, 0)) ∧
            Gets b w vR (.ok (⟨c, n, ⟨k, key, val, i⟩, t⟩, s)) (.returned (vReq c n k key val i t)) (set7 W w.heap.size (.int .i64 c) (.int .i64 n) (.int .i64 k) (str key) (str val) (.int .i64 i) (.int .i64 t)) := fun W c n k key val i t s h1 h2 h3 =>
          ⟨set7_at h1 _ _ _ _ _ _ _, rfl, ⟨set7_other h2.1 (fun e => Hne.out (congrArg some e)) _ _ _ _ _ _ _, h2.2⟩, set7_grown h3 (Nat.le_refl _) _ _ _ _ _ _ _⟩
        have Hfin := Lib.hid fin
        clear fin
        obtain ⟨W4, hW4⟩ := hide (w3.alloc (.cells #[.int .i64 c, .int .i64 n, .int .i64 0, str [], str [], .int .i64 0, .int .i64 t] 27))
        have hc4 : W4.heap[w.heap.size]? = some (.cells zero7 27 (0, 0)) := by rw [← hW4.out]; exact (hp_past _ _ (by have := Hs3.out; omega)).trans Hc3.out
        have hr4 : Rd W4 b s3 := Hr3.out.kept (by rw [← hW4.out]; exact World.grownBy_alloc w3 _ none) (by simp)
        have hg4 : w.grownBy W4 (some b) := by rw [← hW4.out]; exact grown_trans Hg3.out (World.grownBy_alloc w3 _ _)
        have hq4 : W4.heap[w3.heap.size]? = some (.cells #[.int .i64 c, .int .i64 n, .int .i64 0, str [], str [], .int .i64 0, .int .i64 t] 27 (0, 0)) := by rw [← hW4.out]; exact hp_at _ _ rfl
        have Hc4 := Lib.hid hc4
        have Hr4 := Lib.hid hr4
        have Hg4 := Lib.hid hg4
        have Hq4 := Lib.hid hq4
        clear hc4 hr4 hg4 hq4
        have Hsz : Hid (w.heap.size ≠ w3.heap.size) := by have := Hs3.out; show _ ≠ _; omega
        obtain ⟨B, hB⟩ := hide w.heap.size
        obtain ⟨Q, hQ⟩ := hide w3.heap.size
        go_upto_region 2 with fail
        rw [hW4.out]
        rw [hB.out] at Hc4 Hfin Hsz
        rw [hQ.out] at Hq4 Hsz
        rw [hB.out, hQ.out]
        by_cases hz : c = 0
        · obtain rfl : .ok (⟨c, n, ⟨0, [], [], 0⟩, t⟩, s3) = res := by rw [← HR1'.out, if_pos hz]
          subst hz
          obtain ⟨hE, hF⟩ := Hfin.out W4 0 n 0 [] [] 0 t s3 Hc4.out Hr4.out Hg4.out
          have f0 := seven_free (i := 0) Hc4.out
          have f1 := seven_free (i := 1) Hc4.out
          have f2 := seven_free (i := 2) Hc4.out
          have f3 := seven_free (i := 3) Hc4.out
          have f4 := seven_free (i := 4) Hc4.out
          have f5 := seven_free (i := 5) Hc4.out
          have f6 := seven_free (i := 6) Hc4.out
          obtain ⟨c0, c1, c2, c3, c4, c5, c6⟩ := seven_cells Hc4.out
          obtain ⟨q0, q1, q2, q3, q4, q5, q6⟩ := seven_cells Hq4.out
          have HE := Lib.hid hE
          have HF := Lib.hid hF
          clear hE hF HR1'
          go_wp2_with fail
          change bodyPost _ _ _ Exit.ret _ (set7 W4 B (.int .i64 (0 : Nat)) (.int .i64 (n : Nat)) (.int .i64 (0 : Nat)) (str []) (str []) (.int .i64 (0 : Nat)) (.int .i64 (t : Nat)))
          generalize set7 W4 B (.int .i64 (0 : Nat)) (.int .i64 (n : Nat)) (.int .i64 (0 : Nat)) (str []) (str []) (.int .i64 (0 : Nat)) (.int .i64 (t : Nat)) = W5 at HE HF ⊢
          clear c0 c1 c2 c3 c4 c5 c6
          obtain ⟨c0, c1, c2, c3, c4, c5, c6⟩ := seven_cells HE.out
          refine bodyPost_ret (by simp [results, Try.results22, go_sem, c0, c1, c2, c3, c4, c5, c6]; rfl) rfl ?_
          exact HF.out
        · have hcz : ((c : Int) == 0) = false := beq_eq_false_iff_ne.2 (by omega)
          have hbQ : Hid (some Q ≠ some b) := by have := Hne2.out; rw [hQ.out] at this; show _ ≠ _; simpa using this
          have hbB : Hid (some B ≠ some b) := by have := Hne.out; rw [hB.out] at this; exact this
          have HR2 := HR1'.out
          rw [if_neg hz] at HR2
          obtain ⟨q0, q1, q2, q3, q4, q5, q6⟩ := seven_cells Hq4.out
          clear HR1'
          go_wp2_with fail
          refine (command_rd Hr4.out).mono ?_
          intro e w5 hp
          clear q0 q1 q2 q3 q4 q5 q6
          cases hx : rdCmd s3 with
          | error z =>
            rw [hx] at hp HR2
            subst HR2
            obtain ⟨rfl, hg⟩ := hp
            have Hg5 := Lib.hid (grown_trans Hg4.out hg)
            clear hg hx
            go_wp2_with fail
            exact ⟨rfl, rfl, Hg5.out⟩
          | ok p =>
            obtain ⟨m, s5⟩ := p
            rw [hx] at hp HR2
            simp only [] at HR2
            obtain ⟨rfl, hr, hg⟩ := hp
            have hc5 := (hg.block _ (lt_of_block Hc4.out) hbB.out).trans Hc4.out
            have hq5 := (hg.block _ (lt_of_block Hq4.out) hbQ.out).trans Hq4.out
            have hg5 := grown_trans Hg4.out hg
            have Hc6 := Lib.hid (setMid_other hc5 (fun e => Hsz.out e.symm) (.int .i64 m.kind) (str m.key) (str m.val) (.int .i64 m.iff))
            have Hq6 := Lib.hid (setMid_at hq5 (.int .i64 m.kind) (str m.key) (str m.val) (.int .i64 m.iff))
            have hle : w.heap.size ≤ Q := by rw [← hQ.out]; exact Hle.out
            have Hg6 := Lib.hid (setMid_grown hg5 hle (.int .i64 m.kind) (str m.key) (str m.val) (.int .i64 m.iff))
            have Hr6 : Hid (Rd (setMid w5 Q (.int .i64 m.kind) (str m.key) (str m.val) (.int .i64 m.iff)) b s5) := ⟨setMid_other hr.1 (fun e => hbQ.out (congrArg some e)) _ _ _ _, hr.2⟩
            have f2 := seven_free (i := 2) hq5
            have f3 := seven_free (i := 3) hq5
            have f4 := seven_free (i := 4) hq5
            have f5 := seven_free (i := 5) hq5
            obtain ⟨q0, q1, q2, q3, q4, q5, q6⟩ := seven_cells hq5
            have HR3 := Lib.hid HR2
            clear hr hg hx hc5 hq5 hg5 hle HR2
            go_upto_region 4 with fail
            change Code.wp _ _ _ _ (setMid w5 Q (.int .i64 m.kind) (str m.key) (str m.val) (.int .i64 m.iff))
            obtain ⟨W6, hW6⟩ := hide (setMid w5 Q (.int .i64 m.kind) (str m.key) (str m.val) (.int .i64 m.iff))
            rw [hW6.out] at Hc6 Hq6 Hg6 Hr6 ⊢
            clear f2 f3 f4 f5 q0 q1 q2 q3 q4 q5 q6
            obtain ⟨q0, q1, q2, q3, q4, q5, q6⟩ := seven_cells Hq6.out
            go_wp2_with fail
            refine (wire_isCommand _ _ _ _ _).mono ?_
            rintro e w7 ⟨rfl, hw7⟩
            have Hc7 := Lib.hid (show w7.heap[B]? = some (.cells zero7 27 (0, 0)) by rw [← hw7]; exact (hp_past _ _ (by have := lt_of_block Hc6.out; omega)).trans Hc6.out)
            have Hq7 := Lib.hid (show w7.heap[Q]? = some (.cells #[.int .i64 c, .int .i64 n, .int .i64 m.kind, str m.key, str m.val, .int .i64 m.iff, .int .i64 t] 27 (0, 0)) by rw [← hw7]; exact (hp_past _ _ (by have := lt_of_block Hq6.out; omega)).trans Hq6.out)
            have Hr7 : Hid (Rd w7 b s5) := by show Rd _ _ _; rw [← hw7]; exact Hr6.out.kept (World.grownBy_alloc W6 _ none) (by simp)
            have Hg7 : Hid (w.grownBy w7 (some b)) := by show World.grownBy _ _ _; rw [← hw7]; exact grown_trans Hg6.out (World.grownBy_alloc W6 _ _)
            clear hw7 q0 q1 q2 q3 q4 q5 q6
            cases hi : isCommand m.kind m.key m.val m.iff with
            | false =>
              obtain rfl : .error 5 = res := by rw [← HR3.out, hi]; rfl
              clear HR3 hi
              go_wp2_with (go_at_call 25; refine (fail_any _ _).mono ?_; rintro e w' ⟨rfl, rfl⟩)
              exact ⟨rfl, rfl, Hg7.out⟩
            | true =>
              obtain rfl : .ok (⟨c, n, m, t⟩, s5) = res := by rw [← HR3.out, hi]; rfl
              obtain ⟨hE, hF⟩ := Hfin.out w7 c n m.kind m.key m.val m.iff t s5 Hc7.out Hr7.out Hg7.out
              have f0 := seven_free (i := 0) Hc7.out
              have f1 := seven_free (i := 1) Hc7.out
              have f2 := seven_free (i := 2) Hc7.out
              have f3 := seven_free (i := 3) Hc7.out
              have f4 := seven_free (i := 4) Hc7.out
              have f5 := seven_free (i := 5) Hc7.out
              have f6 := seven_free (i := 6) Hc7.out
              obtain ⟨c0, c1, c2, c3, c4, c5, c6⟩ := seven_cells Hc7.out
              obtain ⟨q0, q1, q2, q3, q4, q5, q6⟩ := seven_cells Hq7.out
              have HE := Lib.hid hE
              have HF := Lib.hid hF
              clear hE hF HR3 hi
              go_wp2_with fail
              change bodyPost _ _ _ Exit.ret _ (set7 w7 B (.int .i64 (c : Nat)) (.int .i64 (n : Nat)) (.int .i64 (m.kind : Nat)) (str m.key) (str m.val) (.int .i64 (m.iff : Nat)) (.int .i64 (t : Nat)))
              generalize set7 w7 B (.int .i64 (c : Nat)) (.int .i64 (n : Nat)) (.int .i64 (m.kind : Nat)) (str m.key) (str m.val) (.int .i64 (m.iff : Nat)) (.int .i64 (t : Nat)) = W5 at HE HF ⊢
              clear c0 c1 c2 c3 c4 c5 c6
              obtain ⟨c0, c1, c2, c3, c4, c5, c6⟩ := seven_cells HE.out
              refine bodyPost_ret (by simp [results, Try.results22, go_sem, c0, c1, c2, c3, c4, c5, c6]; rfl) rfl ?_
              exact HF.out
end Go.Proofs.Ytcgfbmlmpcfbgaa
