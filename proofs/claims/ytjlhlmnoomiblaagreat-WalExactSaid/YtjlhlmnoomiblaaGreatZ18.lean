/-
  Are two configurations the same? the document's way. Reading requests, the panicking reader's way. Reading requests: the closure. Reading requests, the document's way: the plain law. What a node must not forget, in plain words: records, a file of them, what it says.
-/
import Derived.Test.YtjlhlmnoomiblaaGreatZ12
import Derived.Test.YtjlhlmnoomiblaaGreatZ06
import Derived.Test.YtjlhlmnoomiblaaGreatZ09
import Derived.Handy
import Derived.Deep.Cut
import Derived.Test.YtjlhlmnoomiblaaGreatZ10
import Derived.Test.YtjlhlmnoomiblaaGreatZ05
import Derived.Test.YtjlhlmnoomiblaaGreatZ08
import Derived.Test.YtjlhlmnoomiblaaGreatZ16
import Derived.Test.YtjlhlmnoomiblaaGreatZ15
import Derived.Test.YtjlhlmnoomiblaaGreatZ13
import Derived.Test.YtjlhlmnoomiblaaGreatZ17
namespace Go.Proofs.YtjlhlmnoomiblaaGreat
open Go.RowKit Wm Mm
set_option linter.unusedVariables false

def sameConf (c c' : Conf) : Bool := decide (c.v = c'.v) && (decide (c.n = c'.n) && decide (c.l = c'.l))

set_option maxHeartbeats 2000000 in
theorem ref_sameConfig (a b d a' b' d' : Value) (c c' : Conf) (w : World) (hc : Config3 w a b d c) (hc' : Config3 w a' b' d' c') :
    Calls Tryz.prog 35 #[.agg #[a, b, d], .agg #[a', b', d']] w fun e w' => e = .returned (.bool (sameConf c c')) ∧ Below w.heap.size w w' := by
  obtain ⟨post, HP⟩ := hide (fun (e : Ending) (w' : World) => e = .returned (.bool (sameConf c c')) ∧ Below w.heap.size w w')
  rw [HP.out]
  have hb1 : Below w.heap.size w ((w.alloc (.cells #[a, b, d] 27)).alloc (.cells #[a', b', d'] 27)) := ((Below.refl _ _).alloc (Nat.le_refl _) _).alloc (by simp) _
  obtain ⟨W, hW⟩ := hide ((w.alloc (.cells #[a, b, d] 27)).alloc (.cells #[a', b', d'] 27))
  have hx : W.heap[w.heap.size]? = some (.cells #[a, b, d] 27 (0, 0)) := by rw [← hW.out]; exact (hp_past _ _ (by simp)).trans (hp_at _ _ rfl)
  have hy : W.heap[w.heap.size + 1]? = some (.cells #[a', b', d'] 27 (0, 0)) := by rw [← hW.out]; exact hp_at _ _ (by simp)
  rw [hW.out] at hb1
  have Hx : Hid (∀ w', Below W.heap.size W w' → w'.heap[w.heap.size]? = some (.cells #[a, b, d] 27 (0, 0)) ∧ w'.heap[w.heap.size + 1]? = some (.cells #[a', b', d'] 27 (0, 0)) ∧ Below w.heap.size w w') := fun w' h => ⟨(h.block _ (lt_of_block hx)).trans hx, (h.block _ (lt_of_block hy)).trans hy, hb1.trans (h.mono hb1.size)⟩
  have HI : Hid (∀ w', Below w.heap.size w w' → (Calls Tryz.prog 74 #[a, a'] w' fun e w'' => e = .returned (.bool (decide (c.v = c'.v))) ∧ Below w'.heap.size w' w'') ∧ (Calls Tryz.prog 74 #[b, b'] w' fun e w'' => e = .returned (.bool (decide (c.n = c'.n))) ∧ Below w'.heap.size w' w'') ∧ (Calls Tryz.prog 74 #[d, d'] w' fun e w'' => e = .returned (.bool (decide (c.l = c'.l))) ∧ Below w'.heap.size w' w'')) := by
    show ∀ w', _ → _
    intro w' hw
    have h := hc.mono hw
    have h' := hc'.mono hw
    exact ⟨ref_sameInts _ _ _ _ _ h.v h'.v, ref_sameInts _ _ _ _ _ h.n h'.n, ref_sameInts _ _ _ _ _ h.l h'.l⟩
  obtain ⟨r1, hr1⟩ := hide (decide (c.v = c'.v))
  obtain ⟨r2, hr2⟩ := hide (decide (c.n = c'.n))
  obtain ⟨r3, hr3⟩ := hide (decide (c.l = c'.l))
  rw [hr1.out, hr2.out, hr3.out] at HI
  have HS : Hid (sameConf c c' = (r1 && (r2 && r3))) := by show _ = _; rw [← hr1.out, ← hr2.out, ← hr3.out]; rfl
  have Hp : Hid (∀ z w', Below W.heap.size W w' → (r1 && (r2 && r3)) = z → post (.returned (.bool z)) w') := by
    show ∀ z w', _ → _ → _
    intro z w' hw hz; rw [← HP.out, ← hz, HS.out]; exact ⟨rfl, hb1.trans (hw.mono hb1.size)⟩
  clear hb1 hx hy hc hc'
  obtain ⟨B, hB⟩ := hide w.heap.size
  rw [hB.out] at Hx HI
  have H0 := Lib.hid (Below.refl W.heap.size W)
  obtain ⟨x0, y0, z0⟩ := Hx.out _ H0.out
  have c0 : W.cell? ⟨B, 0, none⟩ = some a := cell_n x0 0 rfl
  have d0 : W.cell? ⟨B + 1, 0, none⟩ = some a' := cell_n y0 0 rfl
  clear x0 y0 z0
  go_enter Tryz.func35, Tryz.ntmps35
  go_upto_region 1 with fail
  rw [hW.out, hB.out]
  go_wp2_with fail
  refine (HI.out _ (Hx.out _ H0.out).2.2).1.mono ?_
  rintro e w1 ⟨rfl, hb1⟩
  have H1 := Lib.hid (H0.out.trans (hb1.mono H0.out.size))
  obtain ⟨x0, y0, z0⟩ := Hx.out _ H1.out
  clear c0 d0
  have c0 : w1.cell? ⟨B, 1, none⟩ = some b := cell_n x0 1 rfl
  have d0 : w1.cell? ⟨B + 1, 1, none⟩ = some b' := cell_n y0 1 rfl
  clear x0 y0 z0 hb1
  go_wp2_with fail
  refine (HI.out _ (Hx.out _ H1.out).2.2).2.1.mono ?_
  rintro e w2 ⟨rfl, hb1⟩
  have H2 := Lib.hid (H1.out.trans (hb1.mono H1.out.size))
  obtain ⟨x0, y0, z0⟩ := Hx.out _ H2.out
  clear c0 d0
  have c0 : w2.cell? ⟨B, 2, none⟩ = some d := cell_n x0 2 rfl
  have d0 : w2.cell? ⟨B + 1, 2, none⟩ = some d' := cell_n y0 2 rfl
  clear x0 y0 z0 hb1
  go_wp2_with fail
  refine (HI.out _ (Hx.out _ H2.out).2.2).2.2.mono ?_
  rintro e w3 ⟨rfl, hb1⟩
  have H3 := Lib.hid (H2.out.trans (hb1.mono H2.out.size))
  clear c0 d0 hb1
  cases r1 <;> cases r2 <;> cases r3
  all_goals
    have Hq := Lib.hid (Hp.out _ w3 H3.out rfl)
    go_wp2_with fail
    exact Hq.out
end Go.Proofs.YtjlhlmnoomiblaaGreat

namespace Go.Proofs.YtjlhlmnoomiblaaGreat
open Go.RowKit Wm Mm
set_option linter.unusedVariables false

theorem four_free {w : World} {b i : Nat} {x0 x1 x2 x3 : Value} {t : TypeId} (h : w.heap[b]? = some (.cells #[x0, x1, x2, x3] t (0, 0))) : w.frozen? ⟨b, i, none⟩ = false := by simp [World.frozen?, h]
theorem four_set {w : World} {b : Nat} {x0 x1 x2 x3 : Value} {t : TypeId} (h : w.heap[b]? = some (.cells #[x0, x1, x2, x3] t (0, 0))) (y0 y1 y2 y3 : Value) :
    ((((w.setCell ⟨b, 0, none⟩ y0).setCell ⟨b, 1, none⟩ y1).setCell ⟨b, 2, none⟩ y2).setCell ⟨b, 3, none⟩ y3).heap[b]? = some (.cells #[y0, y1, y2, y3] t (0, 0)) := by
  simp [heap_setCell, h, storeIn]
theorem grown_fresh {w w1 : World} {r : Option Nat} (h : w.grownBy w1 r) {a : Addr} (ha : w.heap.size ≤ a.block) (v : Value) : w.grownBy (w1.setCell a v) r :=
  ⟨h.os, h.tape, h.output, by simpa using h.size, fun k hk hn => by rw [heap_setCell, if_neg (by omega)]; exact h.block k hk hn⟩
theorem Rd.setOther {w : World} {b : Nat} {s : List UInt8} (h : Rd w b s) {a : Addr} (ha : a.block ≠ b) (v : Value) : Rd (w.setCell a v) b s := ⟨hp_set_other h.1 ha, h.2⟩

structure Cmd where
  kind : Nat
  key : List UInt8
  val : List UInt8
  iff : Nat
abbrev vC (c : Cmd) : Value := vCmd c.kind c.key c.val c.iff
def rdCmd (s : List UInt8) : Res Cmd :=
  match rdNum s with
  | .error z => .error z
  | .ok (k, s1) => match rdText 16 s1 with
    | .error z => .error z
    | .ok (key, s2) => match rdText 64 s2 with
      | .error z => .error z
      | .ok (val, s3) => match rdNum s3 with
        | .error z => .error z
        | .ok (i, s4) => .ok (⟨k, key, val, i⟩, s4)

end Go.Proofs.YtjlhlmnoomiblaaGreat

namespace Go.Proofs.YtjlhlmnoomiblaaGreat
open Go.RowKit Wm Mm
set_option linter.unusedVariables false

structure Req where
  client : Nat
  number : Nat
  cmd : Cmd
  time : Nat
abbrev vR (q : Req) : Value := vReq q.client q.number q.cmd.kind q.cmd.key q.cmd.val q.cmd.iff q.time
def rdReq (s : List UInt8) : Res Req :=
  match rdNum s with
  | .error z => .error z
  | .ok (c, s1) => match rdNum s1 with
    | .error z => .error z
    | .ok (n, s2) => match rdNum s2 with
      | .error z => .error z
      | .ok (t, s3) =>
        if c = 0 then .ok (⟨c, n, ⟨0, [], [], 0⟩, t⟩, s3)
        else match rdCmd s3 with
          | .error z => .error z
          | .ok (m, s4) => if isCommand m.kind m.key m.val m.iff = true then .ok (⟨c, n, m, t⟩, s4) else .error 5

theorem seven_free {w : World} {b i : Nat} {x0 x1 x2 x3 x4 x5 x6 : Value} {t : TypeId} (h : w.heap[b]? = some (.cells #[x0, x1, x2, x3, x4, x5, x6] t (0, 0))) : w.frozen? ⟨b, i, none⟩ = false := by simp [World.frozen?, h]
def set7 (w : World) (b : Nat) (y0 y1 y2 y3 y4 y5 y6 : Value) : World :=
  ((((((w.setCell ⟨b, 0, none⟩ y0).setCell ⟨b, 1, none⟩ y1).setCell ⟨b, 2, none⟩ y2).setCell ⟨b, 3, none⟩ y3).setCell ⟨b, 4, none⟩ y4).setCell ⟨b, 5, none⟩ y5).setCell ⟨b, 6, none⟩ y6
theorem set7_at {w : World} {b : Nat} {x0 x1 x2 x3 x4 x5 x6 : Value} {t : TypeId} (h : w.heap[b]? = some (.cells #[x0, x1, x2, x3, x4, x5, x6] t (0, 0))) (y0 y1 y2 y3 y4 y5 y6 : Value) :
    (set7 w b y0 y1 y2 y3 y4 y5 y6).heap[b]? = some (.cells #[y0, y1, y2, y3, y4, y5, y6] t (0, 0)) := by
  simp [set7, heap_setCell, h, storeIn]
theorem set7_other {w : World} {b k : Nat} {o : Obj} (h : w.heap[k]? = some o) (hk : b ≠ k) (y0 y1 y2 y3 y4 y5 y6 : Value) : (set7 w b y0 y1 y2 y3 y4 y5 y6).heap[k]? = some o := by
  simp [set7, heap_setCell, h, hk]
theorem set7_grown {w w1 : World} {r : Option Nat} (h : w.grownBy w1 r) {b : Nat} (hb : w.heap.size ≤ b) (y0 y1 y2 y3 y4 y5 y6 : Value) : w.grownBy (set7 w1 b y0 y1 y2 y3 y4 y5 y6) r := by
  unfold set7
  iterate 7 refine grown_fresh ?_ (by simpa using hb) _
  exact h
def setMid (w : World) (b : Nat) (y2 y3 y4 y5 : Value) : World :=
  (((w.setCell ⟨b, 2, none⟩ y2).setCell ⟨b, 3, none⟩ y3).setCell ⟨b, 4, none⟩ y4).setCell ⟨b, 5, none⟩ y5
theorem setMid_at {w : World} {b : Nat} {x0 x1 x2 x3 x4 x5 x6 : Value} {t : TypeId} (h : w.heap[b]? = some (.cells #[x0, x1, x2, x3, x4, x5, x6] t (0, 0))) (y2 y3 y4 y5 : Value) :
    (setMid w b y2 y3 y4 y5).heap[b]? = some (.cells #[x0, x1, y2, y3, y4, y5, x6] t (0, 0)) := by
  simp [setMid, heap_setCell, h, storeIn]
theorem setMid_other {w : World} {b k : Nat} {o : Obj} (h : w.heap[k]? = some o) (hk : b ≠ k) (y2 y3 y4 y5 : Value) : (setMid w b y2 y3 y4 y5).heap[k]? = some o := by
  simp [setMid, heap_setCell, h, hk]
theorem setMid_grown {w w1 : World} {r : Option Nat} (h : w.grownBy w1 r) {b : Nat} (hb : w.heap.size ≤ b) (y2 y3 y4 y5 : Value) : w.grownBy (setMid w1 b y2 y3 y4 y5) r := by
  unfold setMid
  iterate 4 refine grown_fresh ?_ (by simpa using hb) _
  exact h
abbrev zero7 : Array Value := #[.int .i64 0, .int .i64 0, .int .i64 0, str [], str [], .int .i64 0, .int .i64 0]

end Go.Proofs.YtjlhlmnoomiblaaGreat

namespace Go.Proofs.YtjlhlmnoomiblaaGreat
open Go.RowKit Wm Mm
set_option linter.unusedVariables false
set_option linter.unusedSimpArgs false

def refCmd (c n t : Nat) (σ3 : St) : Req × St :=
  if c = 0 then (⟨c, n, ⟨0, [], [], 0⟩, t⟩, σ3)
  else (⟨c, n, ⟨stepV 0 rdNum σ3, stepV [] (rdText 16) (stepS rdNum σ3), stepV [] (rdText 64) (stepS (rdText 16) (stepS rdNum σ3)), stepV 0 rdNum (stepS (rdText 64) (stepS (rdText 16) (stepS rdNum σ3)))⟩, t⟩,
    if isCommand ((stepV 0 rdNum σ3 : Nat) : Int) (stepV [] (rdText 16) (stepS rdNum σ3)) (stepV [] (rdText 64) (stepS (rdText 16) (stepS rdNum σ3))) ((stepV 0 rdNum (stepS (rdText 64) (stepS (rdText 16) (stepS rdNum σ3))) : Nat) : Int) = true
    then stepS rdNum (stepS (rdText 64) (stepS (rdText 16) (stepS rdNum σ3))) else badS 5 (stepS rdNum (stepS (rdText 64) (stepS (rdText 16) (stepS rdNum σ3)))))
def refRun (s : List UInt8) : Req × St :=
  refCmd (stepV 0 rdNum (.ok s)) (stepV 0 rdNum (stepS rdNum (.ok s))) (stepV 0 rdNum (stepS rdNum (stepS rdNum (.ok s)))) (stepS rdNum (stepS rdNum (stepS rdNum (.ok s))))

theorem refCmd_error (c n t : Nat) (z : Int) : (refCmd c n t (.error z)).2 = .error z := by
  unfold refCmd
  split
  · rfl
  · simp only [stepS, badS]
    exact ite_self _
theorem rdTake_err {n : Nat} {s : List UInt8} {z : Int} (h : rdTake n s = .error z) : z ≠ 0 := by
  unfold rdTake at h
  split at h
  · cases h; decide
  · cases h
theorem rdUpTo_err {n : Nat} {s : List UInt8} {z : Int} (h : rdUpTo n s = .error z) : z ≠ 0 := by
  unfold rdUpTo at h
  match h1 : rdNum s with
  | .error y => rw [h1] at h; cases h; exact rdNum_err h1
  | .ok (x, t) =>
    rw [h1] at h
    simp only [] at h
    split at h
    · cases h; decide
    · cases h
theorem rdText_err {n : Nat} {s : List UInt8} {z : Int} (h : rdText n s = .error z) : z ≠ 0 := by
  unfold rdText at h
  match h1 : rdUpTo n s with
  | .error y => rw [h1] at h; cases h; exact rdUpTo_err h1
  | .ok (x, t) => rw [h1] at h; exact rdTake_err h
/-- what the state and the value come to -/
def closeS {α : Type} (x : α) (σ : St) : Except Int α := match endS σ with | 0 => .ok x | z => .error z
theorem closeS_error {α : Type} (x : α) {z : Int} (h : z ≠ 0) : closeS x (.error z) = .error z := by
  unfold closeS endS
  simp only []
theorem closeS_ok {α : Type} (x : α) (t : List UInt8) : closeS x (.ok t) = full (.ok (x, t)) := by
  cases t <;> rfl

theorem ref_same (s : List UInt8) : closeS (refRun s).1 (refRun s).2 = full (rdReq s) := by
  unfold refRun rdReq
  match h1 : rdNum s with
  | .error z =>
    simp only [stepS, stepV, h1, rvalOf, rstOf]
    rw [refCmd_error, closeS_error _ (rdNum_err h1)]; rfl
  | .ok (c, s1) =>
    simp only [stepS, stepV, h1, rvalOf, rstOf]
    match h2 : rdNum s1 with
    | .error z =>
      simp only []
      rw [refCmd_error, closeS_error _ (rdNum_err h2)]; rfl
    | .ok (n, s2) =>
      simp only []
      match h3 : rdNum s2 with
      | .error z =>
        simp only []
        rw [refCmd_error, closeS_error _ (rdNum_err h3)]; rfl
      | .ok (t, s3) =>
        simp only []
        unfold refCmd
        by_cases hc : c = 0
        · rw [if_pos hc, if_pos hc]; exact closeS_ok _ _
        · rw [if_neg hc, if_neg hc]
          unfold rdCmd
          match h4 : rdNum s3 with
          | .error z =>
            simp only [stepS, stepV, h4, rvalOf, rstOf, badS, ite_self]
            rw [closeS_error _ (rdNum_err h4)]; rfl
          | .ok (k, s4) =>
            simp only [stepS, stepV, h4, rvalOf, rstOf]
            match h5 : rdText 16 s4 with
            | .error z =>
              simp only [badS, ite_self]
              rw [closeS_error _ (rdText_err h5)]; rfl
            | .ok (key, s5) =>
              simp only []
              match h6 : rdText 64 s5 with
              | .error z =>
                simp only [badS, ite_self]
                rw [closeS_error _ (rdText_err h6)]; rfl
              | .ok (val, s6) =>
                simp only []
                match h7 : rdNum s6 with
                | .error z =>
                  simp only [badS, ite_self]
                  rw [closeS_error _ (rdNum_err h7)]; rfl
                | .ok (i, s7) =>
                  simp only []
                  by_cases hi : isCommand k key val i = true
                  · rw [if_pos hi, if_pos hi]; exact closeS_ok _ _
                  · rw [if_neg hi, if_neg hi, badS]; rw [closeS_error _ (by decide)]; rfl
end Go.Proofs.YtjlhlmnoomiblaaGreat

namespace Go.Proofs.YtjlhlmnoomiblaaGreat
open Wm Mm Lg Fl
set_option linter.unusedVariables false
set_option linter.unusedSimpArgs false

structure Kp where
  t : Int
  v : Int
  c : Int
  base : Int
  bt : Int
  es : List EntP
  si : Int
  st : Int
  sc : Conf
  sd : List UInt8
  cf : Conf
abbrev noC : Conf := ⟨[], [], []⟩
def recB (k : UInt8) (b : List UInt8) : List UInt8 := frameB (k :: b)
def hardB (t v c : Int) : List UInt8 := recB 1 (putNum t.toNat ++ (putNum v.toNat ++ putNum c.toNat))
def entB (e : EntP) : List UInt8 := recB 2 (putEntB e.idx e.trm e.knd e.dat)
def entsB (l : List EntP) : List UInt8 := l.flatMap entB
def snapB (si st : Int) (sc : Conf) (sd : List UInt8) : List UInt8 := recB 3 (putSnapB si st sc sd)
abbrev nLog : List UInt8 := [108, 111, 103]
abbrev nNew : List UInt8 := [110, 101, 119]
def cutD (t v c : Int) (es : List EntP) (si st : Int) (sc : Conf) (sd : List UInt8) : List UInt8 := snapB si st sc sd ++ (hardB t v c ++ entsB es)
def cutA (d : List UInt8) : List ActP := [⟨1, nNew, [], d, 0⟩, ⟨3, nNew, [], [], 0⟩, ⟨4, nNew, nLog, [], 0⟩, ⟨5, [], [], [], 0⟩]
def saveD (kept : Bool) (t v c : Int) (es : List EntP) : List UInt8 := (if kept = true then hardB t v c else []) ++ entsB es
def saveA (kept : Bool) (t v c : Int) (es : List EntP) (si st : Int) (sc : Conf) (sd : List UInt8) : List ActP :=
  if 0 < si then cutA (cutD t v c es si st sc sd)
  else if saveD kept t v c es = [] then [] else [⟨2, nLog, [], saveD kept t v c es, 0⟩, ⟨3, nLog, [], [], 0⟩]
def endK (k : Kp) : Int := k.base + k.es.length
def toE (x : Ent) : EntP := ⟨x.index, x.term, x.kind, x.data⟩
/-- a record of the hard state -/
def recHard (k : Kp) (r : List UInt8) : Option Kp :=
  match full (rdMany 3 [] r) with
  | .ok [t, v, c] => if (t : Int) < k.t ∨ 9 < v then none else some { k with t := t, v := v, c := c }
  | _ => none
def recEnt (k : Kp) (r : List UInt8) : Option Kp :=
  match full (rdEnt r) with
  | .ok x => if (x.index : Int) ≤ k.base ∨ endK k + 1 < x.index then none
    else if logB k.base k.bt (k.es.take (x.index - k.base - 1).toNat ++ [toE x]) = true then some { k with es := k.es.take (x.index - k.base - 1).toNat ++ [toE x] } else none
  | _ => none
def recSnap (k : Kp) (r : List UInt8) : Option Kp :=
  match full (rdSnap r) with
  | .ok x => some { k with si := x.index, st := x.term, sc := x.conf, sd := x.data, cf := x.conf, base := x.index, bt := x.term, es := [] }
  | _ => none
def recP (k : Kp) : List UInt8 → Option Kp
  | [] => none
  | b :: r => if b = 1 then recHard k r else if b = 2 then recEnt k r else if b = 3 then recSnap k r else none
theorem unframe_lt {s b t : List UInt8} (h : unframe s = .ok (b, t)) : t.length < s.length ∧ b.length ≤ s.length := by
  unfold unframe at h
  split at h
  · cases h
  · rename_i body u hu
    have h1 := rdText_le2 hu
    split at h
    · cases h
    · rename_i x u2 hx
      split at h
      · injection h with h
        injection h with h2 h3
        subst h2 h3
        unfold rdTake at hx
        split at hx
        · cases hx
        · rename_i h4
          injection hx with hx
          injection hx with h5 h6
          subst h5 h6
          rw [List.length_drop]
          exact ⟨by omega, h1.1⟩
      · cases h
/-- record by record: what is known, and where it ends -/
def goP (k : Kp) (s : List UInt8) : Option (Kp × List UInt8) :=
  if s = [] then some (k, [])
  else match h : unframe s with
    | .error _ => some (k, s)
    | .ok (b, t) => match recP k b with
      | none => none
      | some k' => goP k' t
termination_by s.length
decreasing_by exact (unframe_lt h).1
theorem goP_nil (k : Kp) : goP k [] = some (k, []) := by rw [goP]; rfl
theorem goP_end {k : Kp} {s : List UInt8} (h0 : s ≠ []) {z : Int} (h : unframe s = .error z) : goP k s = some (k, s) := by
  rw [goP, if_neg h0]
  split
  · rfl
  · rename_i b t h2; rw [h] at h2; cases h2
theorem goP_no {k : Kp} {s b t : List UInt8} (h0 : s ≠ []) (h : unframe s = .ok (b, t)) (h1 : recP k b = none) : goP k s = none := by
  rw [goP, if_neg h0]
  split
  · rename_i h2; rw [h] at h2; cases h2
  · rename_i b' t' h2
    rw [h] at h2
    injection h2 with h2
    injection h2 with h3 h4
    subst h3 h4
    rw [h1]
theorem goP_on {k k' : Kp} {s b t : List UInt8} (h0 : s ≠ []) (h : unframe s = .ok (b, t)) (h1 : recP k b = some k') : goP k s = goP k' t := by
  rw [goP, if_neg h0]
  split
  · rename_i h2; rw [h] at h2; cases h2
  · rename_i b' t' h2
    rw [h] at h2
    injection h2 with h2
    injection h2 with h3 h4
    subst h3 h4
    rw [h1]
/-- what is put right -/
def upC (k : Kp) : Int := max k.base (min k.c (endK k))
def fixK (k : Kp) : Kp := if k.t < lastT k.bt k.es then { k with t := lastT k.bt k.es, v := 0, c := upC k } else { k with c := upC k }
def sameH (a b : Kp) : Bool := (a.t == b.t) && ((a.v == b.v) && (a.c == b.c))
def logD (l : List FileP) : List UInt8 := l.foldl (fun s f => if f.nam = nLog then f.dat else s) []
def newA (l : List FileP) : List ActP := l.flatMap (fun f => if f.nam = nLog then [] else [⟨7, nNew, [], [], 0⟩])
def okF (l : List FileP) : Bool := decide (∀ k (h : k < l.length), (l[k].nam = nLog ∨ l[k].nam = nNew) ∧ ∀ j (hj : j < k), (l[j]'(by omega)).nam ≠ l[k].nam)
def zeroK (cf : Conf) : Kp := ⟨0, 0, 0, 0, 0, [], 0, 0, noC, [], cf⟩
def cutOff (s rest : List UInt8) : List ActP := if rest = [] then [] else [⟨6, nLog, [], [], (s.length : Int) - rest.length⟩, ⟨3, nLog, [], [], 0⟩]
def fixA (k : Kp) : List ActP := if sameH (fixK k) k = true then [] else [⟨2, nLog, [], hardB (fixK k).t (fixK k).v (fixK k).c, 0⟩, ⟨3, nLog, [], [], 0⟩]
def confOk (c : Conf) : Bool := validB c || sameConf c noC
def openP (l : List FileP) (cf : Conf) : Option (Kp × List ActP) :=
  if okF l = false then none
  else match goP (zeroK cf) (logD l) with
    | none => none
    | some (k, rest) => if confOk k.cf = true then some (fixK k, newA l ++ (cutOff (logD l) rest ++ fixA k)) else none
/-- what is always so of what is known -/
structure InvK (k : Kp) : Prop where
  t : 0 ≤ k.t ∧ k.t ≤ 1099511627775
  v : 0 ≤ k.v ∧ k.v ≤ 1099511627775
  c : 0 ≤ k.c ∧ k.c ≤ 1099511627775
  log : logB k.base k.bt k.es = true
  n : k.es.length ≤ 1099511627775
theorem InvK.zero (cf : Conf) : InvK (zeroK cf) := ⟨by simp [zeroK], by simp [zeroK], by simp [zeroK], by simp [zeroK, logB, headB, allB, inB], by simp [zeroK]⟩
theorem InvK.ok {k : Kp} (h : InvK k) : Ok k.base k.es := logB_ok h.log (by have := h.n; omega)
theorem rdMany_lt : ∀ (n : Nat) (acc : List Nat) (s : List UInt8) (l : List Nat) (t : List UInt8), (∀ x ∈ acc, x ≤ 1099511627775) → rdMany n acc s = .ok (l, t) → (∀ x ∈ l, x ≤ 1099511627775) ∧ l.length = acc.length + n
  | 0, acc, s, l, t, h, e => by
    injection e with e
    injection e with e1 e2
    subst e1
    exact ⟨h, rfl⟩
  | n + 1, acc, s, l, t, h, e => by
    rw [rdMany] at e
    cases hx : rdNum s with
    | error z => rw [hx] at e; cases e
    | ok p =>
      obtain ⟨x, u⟩ := p
      rw [hx] at e
      have := rdMany_lt n (acc ++ [x]) u l t (by intro y hy; rcases List.mem_append.1 hy with hy | hy; · exact h y hy
                                                 · rw [List.mem_singleton.1 hy]; exact rdNum_lt hx) e
      refine ⟨this.1, ?_⟩
      rw [this.2, List.length_append]
      simp
      omega
theorem full_ok {α : Type} {r : Res α} {x : α} (h : full r = .ok x) : r = .ok (x, []) := by
  unfold full at h
  split at h
  · cases h
  · injection h with h
    subst h
    rfl
  · cases h
theorem rdEnt_ok {s : List UInt8} {x : Ent} {t : List UInt8} (h : rdEnt s = .ok (x, t)) : isEntry x.index x.term x.kind x.data = true := by
  unfold rdEnt at h
  split at h
  · cases h
  · split at h
    · cases h
    · split at h
      · cases h
      · split at h
        · cases h
        · split at h
          · rename_i hh
            injection h with h
            injection h with h h'
            subst h
            exact hh
          · cases h
theorem rdSnap_ok {s : List UInt8} {x : Snap} {t : List UInt8} (h : rdSnap s = .ok (x, t)) : isSnap x.index x.term x.conf x.data = true := by
  unfold rdSnap at h
  split at h
  · cases h
  · split at h
    · cases h
    · split at h
      · cases h
      · split at h
        · cases h
        · split at h
          · rename_i hh
            injection h with h
            injection h with h h'
            subst h
            exact hh
          · cases h
theorem logB_len {base bt : Int} {es : List EntP} (h : logB base bt es = true) (hn : es.length ≤ 3518437208883) : es.length ≤ 1099511627775 := by
  rcases Nat.eq_zero_or_pos es.length with h0 | h0
  · omega
  · have hok := logB_ok h hn
    have h1 := hok.at_ (es.length - 1) (by omega)
    unfold logB allB at h
    simp only [Bool.and_eq_true] at h
    have h2 := (List.all_eq_true.1 h.2) (es.length - 1) (List.mem_range.2 (by omega))
    rw [List.getElem?_eq_getElem (by omega)] at h2
    simp only [okAtL, isEntry, inB, Bool.and_eq_true, decide_eq_true_eq] at h2
    have := h2.1.1.2
    have := hok.b0
    omega
theorem InvK.hard {k k' : Kp} {r : List UInt8} (h : InvK k) (e : recHard k r = some k') : InvK k' := by
  unfold recHard at e
  split at e
  · rename_i t v c hl
    split at e
    · cases e
    · injection e with e
      subst e
      have := (rdMany_lt 3 [] r _ [] (by simp) (full_ok hl)).1
      have h1 := this t (by simp)
      have h2 := this v (by simp)
      have h3 := this c (by simp)
      exact ⟨⟨by simp, by simp; omega⟩, ⟨by simp, by simp; omega⟩, ⟨by simp, by simp; omega⟩, h.log, h.n⟩
  · cases e
theorem InvK.ent {k k' : Kp} {r : List UInt8} (h : InvK k) (e : recEnt k r = some k') : InvK k' := by
  unfold recEnt at e
  split at e
  · rename_i x hx
    split at e
    · cases e
    · split at e
      · rename_i hl
        injection e with e
        subst e
        refine ⟨h.t, h.v, h.c, hl, logB_len hl ?_⟩
        rw [List.length_append, List.length_take]
        have := h.n
        simp
        omega
      · cases e
  · cases e
theorem InvK.snap {k k' : Kp} {r : List UInt8} (h : InvK k) (e : recSnap k r = some k') : InvK k' := by
  unfold recSnap at e
  split at e
  · rename_i x hx
    injection e with e
    subst e
    have h1 := rdSnap_ok (full_ok hx)
    simp only [isSnap, inB, Bool.and_eq_true, decide_eq_true_eq] at h1
    refine ⟨h.t, h.v, h.c, ?_, by simp⟩
    simp only [logB, headB, allB, inB, List.length_nil, List.range_zero, List.all_nil, Bool.and_true, Bool.and_eq_true, decide_eq_true_eq]
    refine ⟨⟨by omega, by omega⟩, ⟨by omega, by omega⟩, ?_⟩
    have e1 : ((x.index : Int) == 0) = false := beq_eq_false_iff_ne.2 (by omega)
    have e2 : ((x.term : Int) == 0) = false := beq_eq_false_iff_ne.2 (by omega)
    rw [e1, e2]
    rfl
  · cases e
theorem InvK.record {k k' : Kp} {b : List UInt8} (h : InvK k) (e : recP k b = some k') : InvK k' := by
  cases b with
  | nil => cases e
  | cons b r =>
    simp only [recP] at e
    split at e
    · exact h.hard e
    · split at e
      · exact h.ent e
      · split at e
        · exact h.snap e
        · cases e
/-- three numbers read one behind the other, by the reader that keeps its first error -/
theorem hard3 (r : List UInt8) : 
    (endS (stepS rdNum (stepS rdNum (stepS rdNum (.ok r)))) = 0 → full (rdMany 3 [] r) = .ok [stepV 0 rdNum (.ok r), stepV 0 rdNum (stepS rdNum (.ok r)), stepV 0 rdNum (stepS rdNum (stepS rdNum (.ok r)))]) ∧
    (endS (stepS rdNum (stepS rdNum (stepS rdNum (.ok r)))) ≠ 0 → ∀ l, full (rdMany 3 [] r) ≠ .ok l) := by
  have herr : ∀ {s : List UInt8} {z : Int}, rdNum s = .error z → z ≠ 0 := fun h => rdNum_err h
  simp only [rdMany]
  cases h1 : rdNum r with
  | error z =>
    have hz := herr h1
    simp [stepS, stepV, h1, rstOf, rvalOf, endS, full, hz]
  | ok p =>
    obtain ⟨a, u⟩ := p
    cases h2 : rdNum u with
    | error z =>
      have hz := herr h2
      simp [stepS, stepV, h1, h2, rstOf, rvalOf, endS, full, hz]
    | ok p =>
      obtain ⟨b, u2⟩ := p
      cases h3 : rdNum u2 with
      | error z =>
        have hz := herr h3
        simp [stepS, stepV, h1, h2, h3, rstOf, rvalOf, endS, full, hz]
      | ok p =>
        obtain ⟨c, u3⟩ := p
        cases u3 with
        | nil => simp [stepS, stepV, h1, h2, h3, rstOf, rvalOf, endS, full]
        | cons x y => simp [stepS, stepV, h1, h2, h3, rstOf, rvalOf, endS, full]
end Go.Proofs.YtjlhlmnoomiblaaGreat
