/-
  Are two configurations the same? the document's way. Reading requests, the panicking reader's way. Reading requests: the closure. Reading requests, the document's way: the plain law.
-/
import Derived.Test.YtjlhlmnoomiblaaZ15
import Derived.Test.YtjlhlmnoomiblaaZ08
import Derived.Test.YtjlhlmnoomiblaaZ11
import Derived.Handy
import Derived.Deep.Cut
import Derived.Test.YtjlhlmnoomiblaaZ13
namespace Go.Proofs.Ytjlhlmnoomiblaa
open Go.RowKit Wm Mm
set_option linter.unusedVariables false

def sameConf (c c' : Conf) : Bool := decide (c.v = c'.v) && (decide (c.n = c'.n) && decide (c.l = c'.l))

end Go.Proofs.Ytjlhlmnoomiblaa

namespace Go.Proofs.Ytjlhlmnoomiblaa
open Go.RowKit Wm Mm
set_option linter.unusedVariables false

theorem four_free {w : World} {b i : Nat} {x0 x1 x2 x3 : Value} {t : TypeId} (h : w.heap[b]? = some (.cells #[x0, x1, x2, x3] t (0, 0))) : w.frozen? ⟨b, i, none⟩ = false := by simp [World.frozen?, h]
theorem four_set {w : World} {b : Nat} {x0 x1 x2 x3 : Value} {t : TypeId} (h : w.heap[b]? = some (.cells #[x0, x1, x2, x3] t (0, 0))) (y0 y1 y2 y3 : Value) :
    ((((w.setCell ⟨b, 0, none⟩ y0).setCell ⟨b, 1, none⟩ y1).setCell ⟨b, 2, none⟩ y2).setCell ⟨b, 3, none⟩ y3).heap[b]? = some (.cells #[y0, y1, y2, y3] t (0, 0)) := by
  simp [heap_setCell, h, storeIn]
theorem grown_fresh {w w1 : World} {r : Option Nat} (h : w.grownBy w1 r) {a : Addr} (ha : w.heap.size ≤ a.block) (v : Value) : w.grownBy (w1.setCell a v) r :=
  ⟨h.os, h.tape, h.output, by simpa using h.size, fun k hk hn => by rw [heap_setCell, if_neg (by omega)]; exact h.block k hk hn⟩
theorem Rd.setOther {w : World} {b : Nat} {s : List UInt8} (h : Rd w b s) {a : Addr} (ha : a.block ≠ b) (v : Value) : Rd (w.setCell a v) b s := ⟨hp_set_other h.1 ha, h.2⟩

structure Cmd where
  kind : Nat
  key : List UInt8
  val : List UInt8
  iff : Nat
abbrev vC (c : Cmd) : Value := vCmd c.kind c.key c.val c.iff
def rdCmd (s : List UInt8) : Res Cmd :=
  match rdNum s with
  | .error z => .error z
  | .ok (k, s1) => match rdText 16 s1 with
    | .error z => .error z
    | .ok (key, s2) => match rdText 64 s2 with
      | .error z => .error z
      | .ok (val, s3) => match rdNum s3 with
        | .error z => .error z
        | .ok (i, s4) => .ok (⟨k, key, val, i⟩, s4)

end Go.Proofs.Ytjlhlmnoomiblaa

namespace Go.Proofs.Ytjlhlmnoomiblaa
open Go.RowKit Wm Mm
set_option linter.unusedVariables false

structure Req where
  client : Nat
  number : Nat
  cmd : Cmd
  time : Nat
abbrev vR (q : Req) : Value := vReq q.client q.number q.cmd.kind q.cmd.key q.cmd.val q.cmd.iff q.time
def rdReq (s : List UInt8) : Res Req :=
  match rdNum s with
  | .error z => .error z
  | .ok (c, s1) => match rdNum s1 with
    | .error z => .error z
    | .ok (n, s2) => match rdNum s2 with
      | .error z => .error z
      | .ok (t, s3) =>
        if c = 0 then .ok (⟨c, n, ⟨0, [], [], 0⟩, t⟩, s3)
        else match rdCmd s3 with
          | .error z => .error z
          | .ok (m, s4) => if isCommand m.kind m.key m.val m.iff = true then .ok (⟨c, n, m, t⟩, s4) else .error 5

theorem seven_free {w : World} {b i : Nat} {x0 x1 x2 x3 x4 x5 x6 : Value} {t : TypeId} (h : w.heap[b]? = some (.cells #[x0, x1, x2, x3, x4, x5, x6] t (0, 0))) : w.frozen? ⟨b, i, none⟩ = false := by simp [World.frozen?, h]
def set7 (w : World) (b : Nat) (y0 y1 y2 y3 y4 y5 y6 : Value) : World :=
  ((((((w.setCell ⟨b, 0, none⟩ y0).setCell ⟨b, 1, none⟩ y1).setCell ⟨b, 2, none⟩ y2).setCell ⟨b, 3, none⟩ y3).setCell ⟨b, 4, none⟩ y4).setCell ⟨b, 5, none⟩ y5).setCell ⟨b, 6, none⟩ y6
theorem set7_at {w : World} {b : Nat} {x0 x1 x2 x3 x4 x5 x6 : Value} {t : TypeId} (h : w.heap[b]? = some (.cells #[x0, x1, x2, x3, x4, x5, x6] t (0, 0))) (y0 y1 y2 y3 y4 y5 y6 : Value) :
    (set7 w b y0 y1 y2 y3 y4 y5 y6).heap[b]? = some (.cells #[y0, y1, y2, y3, y4, y5, y6] t (0, 0)) := by
  simp [set7, heap_setCell, h, storeIn]
theorem set7_other {w : World} {b k : Nat} {o : Obj} (h : w.heap[k]? = some o) (hk : b ≠ k) (y0 y1 y2 y3 y4 y5 y6 : Value) : (set7 w b y0 y1 y2 y3 y4 y5 y6).heap[k]? = some o := by
  simp [set7, heap_setCell, h, hk]
theorem set7_grown {w w1 : World} {r : Option Nat} (h : w.grownBy w1 r) {b : Nat} (hb : w.heap.size ≤ b) (y0 y1 y2 y3 y4 y5 y6 : Value) : w.grownBy (set7 w1 b y0 y1 y2 y3 y4 y5 y6) r := by
  unfold set7
  iterate 7 refine grown_fresh ?_ (by simpa using hb) _
  exact h
def setMid (w : World) (b : Nat) (y2 y3 y4 y5 : Value) : World :=
  (((w.setCell ⟨b, 2, none⟩ y2).setCell ⟨b, 3, none⟩ y3).setCell ⟨b, 4, none⟩ y4).setCell ⟨b, 5, none⟩ y5
theorem setMid_at {w : World} {b : Nat} {x0 x1 x2 x3 x4 x5 x6 : Value} {t : TypeId} (h : w.heap[b]? = some (.cells #[x0, x1, x2, x3, x4, x5, x6] t (0, 0))) (y2 y3 y4 y5 : Value) :
    (setMid w b y2 y3 y4 y5).heap[b]? = some (.cells #[x0, x1, y2, y3, y4, y5, x6] t (0, 0)) := by
  simp [setMid, heap_setCell, h, storeIn]
theorem setMid_other {w : World} {b k : Nat} {o : Obj} (h : w.heap[k]? = some o) (hk : b ≠ k) (y2 y3 y4 y5 : Value) : (setMid w b y2 y3 y4 y5).heap[k]? = some o := by
  simp [setMid, heap_setCell, h, hk]
theorem setMid_grown {w w1 : World} {r : Option Nat} (h : w.grownBy w1 r) {b : Nat} (hb : w.heap.size ≤ b) (y2 y3 y4 y5 : Value) : w.grownBy (setMid w1 b y2 y3 y4 y5) r := by
  unfold setMid
  iterate 4 refine grown_fresh ?_ (by simpa using hb) _
  exact h
abbrev zero7 : Array Value := #[.int .i64 0, .int .i64 0, .int .i64 0, str [], str [], .int .i64 0, .int .i64 0]

end Go.Proofs.Ytjlhlmnoomiblaa

namespace Go.Proofs.Ytjlhlmnoomiblaa
open Go.RowKit Wm Mm
set_option linter.unusedVariables false
set_option linter.unusedSimpArgs false

def refCmd (c n t : Nat) (σ3 : St) : Req × St :=
  if c = 0 then (⟨c, n, ⟨0, [], [], 0⟩, t⟩, σ3)
  else (⟨c, n, ⟨stepV 0 rdNum σ3, stepV [] (rdText 16) (stepS rdNum σ3), stepV [] (rdText 64) (stepS (rdText 16) (stepS rdNum σ3)), stepV 0 rdNum (stepS (rdText 64) (stepS (rdText 16) (stepS rdNum σ3)))⟩, t⟩,
    if isCommand ((stepV 0 rdNum σ3 : Nat) : Int) (stepV [] (rdText 16) (stepS rdNum σ3)) (stepV [] (rdText 64) (stepS (rdText 16) (stepS rdNum σ3))) ((stepV 0 rdNum (stepS (rdText 64) (stepS (rdText 16) (stepS rdNum σ3))) : Nat) : Int) = true
    then stepS rdNum (stepS (rdText 64) (stepS (rdText 16) (stepS rdNum σ3))) else badS 5 (stepS rdNum (stepS (rdText 64) (stepS (rdText 16) (stepS rdNum σ3)))))
def refRun (s : List UInt8) : Req × St :=
  refCmd (stepV 0 rdNum (.ok s)) (stepV 0 rdNum (stepS rdNum (.ok s))) (stepV 0 rdNum (stepS rdNum (stepS rdNum (.ok s)))) (stepS rdNum (stepS rdNum (stepS rdNum (.ok s))))

theorem refCmd_error (c n t : Nat) (z : Int) : (refCmd c n t (.error z)).2 = .error z := by
  unfold refCmd
  split
  · rfl
  · simp only [stepS, badS]
    exact ite_self _
theorem rdTake_err {n : Nat} {s : List UInt8} {z : Int} (h : rdTake n s = .error z) : z ≠ 0 := by
  unfold rdTake at h
  split at h
  · cases h; decide
  · cases h
theorem rdUpTo_err {n : Nat} {s : List UInt8} {z : Int} (h : rdUpTo n s = .error z) : z ≠ 0 := by
  unfold rdUpTo at h
  match h1 : rdNum s with
  | .error y => rw [h1] at h; cases h; exact rdNum_err h1
  | .ok (x, t) =>
    rw [h1] at h
    simp only [] at h
    split at h
    · cases h; decide
    · cases h
theorem rdText_err {n : Nat} {s : List UInt8} {z : Int} (h : rdText n s = .error z) : z ≠ 0 := by
  unfold rdText at h
  match h1 : rdUpTo n s with
  | .error y => rw [h1] at h; cases h; exact rdUpTo_err h1
  | .ok (x, t) => rw [h1] at h; exact rdTake_err h
/-- what the state and the value come to -/
def closeS {α : Type} (x : α) (σ : St) : Except Int α := match endS σ with | 0 => .ok x | z => .error z
theorem closeS_error {α : Type} (x : α) {z : Int} (h : z ≠ 0) : closeS x (.error z) = .error z := by
  unfold closeS endS
  simp only []
theorem closeS_ok {α : Type} (x : α) (t : List UInt8) : closeS x (.ok t) = full (.ok (x, t)) := by
  cases t <;> rfl

theorem ref_same (s : List UInt8) : closeS (refRun s).1 (refRun s).2 = full (rdReq s) := by
  unfold refRun rdReq
  match h1 : rdNum s with
  | .error z =>
    simp only [stepS, stepV, h1, rvalOf, rstOf]
    rw [refCmd_error, closeS_error _ (rdNum_err h1)]; rfl
  | .ok (c, s1) =>
    simp only [stepS, stepV, h1, rvalOf, rstOf]
    match h2 : rdNum s1 with
    | .error z =>
      simp only []
      rw [refCmd_error, closeS_error _ (rdNum_err h2)]; rfl
    | .ok (n, s2) =>
      simp only []
      match h3 : rdNum s2 with
      | .error z =>
        simp only []
        rw [refCmd_error, closeS_error _ (rdNum_err h3)]; rfl
      | .ok (t, s3) =>
        simp only []
        unfold refCmd
        by_cases hc : c = 0
        · rw [if_pos hc, if_pos hc]; exact closeS_ok _ _
        · rw [if_neg hc, if_neg hc]
          unfold rdCmd
          match h4 : rdNum s3 with
          | .error z =>
            simp only [stepS, stepV, h4, rvalOf, rstOf, badS, ite_self]
            rw [closeS_error _ (rdNum_err h4)]; rfl
          | .ok (k, s4) =>
            simp only [stepS, stepV, h4, rvalOf, rstOf]
            match h5 : rdText 16 s4 with
            | .error z =>
              simp only [badS, ite_self]
              rw [closeS_error _ (rdText_err h5)]; rfl
            | .ok (key, s5) =>
              simp only []
              match h6 : rdText 64 s5 with
              | .error z =>
                simp only [badS, ite_self]
                rw [closeS_error _ (rdText_err h6)]; rfl
              | .ok (val, s6) =>
                simp only []
                match h7 : rdNum s6 with
                | .error z =>
                  simp only [badS, ite_self]
                  rw [closeS_error _ (rdNum_err h7)]; rfl
                | .ok (i, s7) =>
                  simp only []
                  by_cases hi : isCommand k key val i = true
                  · rw [if_pos hi, if_pos hi]; exact closeS_ok _ _
                  · rw [if_neg hi, if_neg hi, badS]; rw [closeS_error _ (by decide)]; rfl
end Go.Proofs.Ytjlhlmnoomiblaa
