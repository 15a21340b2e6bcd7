/-
  What a node must not forget, in plain words: records, a file of them, what it says.
-/
import Derived.Test.YtjlhlmnoomiblaaZ02
import Derived.Test.YtjlhlmnoomiblaaZ10
import Derived.Test.YtjlhlmnoomiblaaZ19
import Derived.Test.YtjlhlmnoomiblaaZ18
import Derived.Test.YtjlhlmnoomiblaaZ16
import Derived.Test.YtjlhlmnoomiblaaZ20
import Derived.Test.YtjlhlmnoomiblaaZ21
namespace Go.Proofs.Ytjlhlmnoomiblaa
open Wm Mm Lg Fl
set_option linter.unusedVariables false
set_option linter.unusedSimpArgs false

structure Kp where
  t : Int
  v : Int
  c : Int
  base : Int
  bt : Int
  es : List EntP
  si : Int
  st : Int
  sc : Conf
  sd : List UInt8
  cf : Conf
abbrev noC : Conf := ⟨[], [], []⟩
def recB (k : UInt8) (b : List UInt8) : List UInt8 := frameB (k :: b)
def hardB (t v c : Int) : List UInt8 := recB 1 (putNum t.toNat ++ (putNum v.toNat ++ putNum c.toNat))
def entB (e : EntP) : List UInt8 := recB 2 (putEntB e.idx e.trm e.knd e.dat)
def entsB (l : List EntP) : List UInt8 := l.flatMap entB
def snapB (si st : Int) (sc : Conf) (sd : List UInt8) : List UInt8 := recB 3 (putSnapB si st sc sd)
abbrev nLog : List UInt8 := [108, 111, 103]
abbrev nNew : List UInt8 := [110, 101, 119]
def cutD (t v c : Int) (es : List EntP) (si st : Int) (sc : Conf) (sd : List UInt8) : List UInt8 := snapB si st sc sd ++ (hardB t v c ++ entsB es)
def cutA (d : List UInt8) : List ActP := [⟨1, nNew, [], d, 0⟩, ⟨3, nNew, [], [], 0⟩, ⟨4, nNew, nLog, [], 0⟩, ⟨5, [], [], [], 0⟩]
def saveD (kept : Bool) (t v c : Int) (es : List EntP) : List UInt8 := (if kept = true then hardB t v c else []) ++ entsB es
def saveA (kept : Bool) (t v c : Int) (es : List EntP) (si st : Int) (sc : Conf) (sd : List UInt8) : List ActP :=
  if 0 < si then cutA (cutD t v c es si st sc sd)
  else if saveD kept t v c es = [] then [] else [⟨2, nLog, [], saveD kept t v c es, 0⟩, ⟨3, nLog, [], [], 0⟩]
def endK (k : Kp) : Int := k.base + k.es.length
def toE (x : Ent) : EntP := ⟨x.index, x.term, x.kind, x.data⟩
/-- a record of the hard state -/
def recHard (k : Kp) (r : List UInt8) : Option Kp :=
  match full (rdMany 3 [] r) with
  | .ok [t, v, c] => if (t : Int) < k.t ∨ 9 < v then none else some { k with t := t, v := v, c := c }
  | _ => none
def recEnt (k : Kp) (r : List UInt8) : Option Kp :=
  match full (rdEnt r) with
  | .ok x => if (x.index : Int) ≤ k.base ∨ endK k + 1 < x.index then none
    else if logB k.base k.bt (k.es.take (x.index - k.base - 1).toNat ++ [toE x]) = true then some { k with es := k.es.take (x.index - k.base - 1).toNat ++ [toE x] } else none
  | _ => none
def recSnap (k : Kp) (r : List UInt8) : Option Kp :=
  match full (rdSnap r) with
  | .ok x => some { k with si := x.index, st := x.term, sc := x.conf, sd := x.data, cf := x.conf, base := x.index, bt := x.term, es := [] }
  | _ => none
def recP (k : Kp) : List UInt8 → Option Kp
  | [] => none
  | b :: r => if b = 1 then recHard k r else if b = 2 then recEnt k r else if b = 3 then recSnap k r else none
theorem unframe_lt {s b t : List UInt8} (h : unframe s = .ok (b, t)) : t.length < s.length ∧ b.length ≤ s.length := by
  unfold unframe at h
  split at h
  · cases h
  · rename_i body u hu
    have h1 := rdText_le2 hu
    split at h
    · cases h
    · rename_i x u2 hx
      split at h
      · injection h with h
        injection h with h2 h3
        subst h2 h3
        unfold rdTake at hx
        split at hx
        · cases hx
        · rename_i h4
          injection hx with hx
          injection hx with h5 h6
          subst h5 h6
          rw [List.length_drop]
          exact ⟨by omega, h1.1⟩
      · cases h
/-- record by record: what is known, and where it ends -/
def goP (k : Kp) (s : List UInt8) : Option (Kp × List UInt8) :=
  if s = [] then some (k, [])
  else match h : unframe s with
    | .error _ => some (k, s)
    | .ok (b, t) => match recP k b with
      | none => none
      | some k' => goP k' t
termination_by s.length
decreasing_by exact (unframe_lt h).1
theorem goP_nil (k : Kp) : goP k [] = some (k, []) := by rw [goP]; rfl
theorem goP_end {k : Kp} {s : List UInt8} (h0 : s ≠ []) {z : Int} (h : unframe s = .error z) : goP k s = some (k, s) := by
  rw [goP, if_neg h0]
  split
  · rfl
  · rename_i b t h2; rw [h] at h2; cases h2
theorem goP_no {k : Kp} {s b t : List UInt8} (h0 : s ≠ []) (h : unframe s = .ok (b, t)) (h1 : recP k b = none) : goP k s = none := by
  rw [goP, if_neg h0]
  split
  · rename_i h2; rw [h] at h2; cases h2
  · rename_i b' t' h2
    rw [h] at h2
    injection h2 with h2
    injection h2 with h3 h4
    subst h3 h4
    rw [h1]
theorem goP_on {k k' : Kp} {s b t : List UInt8} (h0 : s ≠ []) (h : unframe s = .ok (b, t)) (h1 : recP k b = some k') : goP k s = goP k' t := by
  rw [goP, if_neg h0]
  split
  · rename_i h2; rw [h] at h2; cases h2
  · rename_i b' t' h2
    rw [h] at h2
    injection h2 with h2
    injection h2 with h3 h4
    subst h3 h4
    rw [h1]
/-- what is put right -/
def upC (k : Kp) : Int := max k.base (min k.c (endK k))
def fixK (k : Kp) : Kp := if k.t < lastT k.bt k.es then { k with t := lastT k.bt k.es, v := 0, c := upC k } else { k with c := upC k }
def sameH (a b : Kp) : Bool := (a.t == b.t) && ((a.v == b.v) && (a.c == b.c))
def logD (l : List FileP) : List UInt8 := l.foldl (fun s f => if f.nam = nLog then f.dat else s) []
def newA (l : List FileP) : List ActP := l.flatMap (fun f => if f.nam = nLog then [] else [⟨7, nNew, [], [], 0⟩])
def okF (l : List FileP) : Bool := decide (∀ k (h : k < l.length), (l[k].nam = nLog ∨ l[k].nam = nNew) ∧ ∀ j (hj : j < k), (l[j]'(by omega)).nam ≠ l[k].nam)
def zeroK (cf : Conf) : Kp := ⟨0, 0, 0, 0, 0, [], 0, 0, noC, [], cf⟩
def cutOff (s rest : List UInt8) : List ActP := if rest = [] then [] else [⟨6, nLog, [], [], (s.length : Int) - rest.length⟩, ⟨3, nLog, [], [], 0⟩]
def fixA (k : Kp) : List ActP := if sameH (fixK k) k = true then [] else [⟨2, nLog, [], hardB (fixK k).t (fixK k).v (fixK k).c, 0⟩, ⟨3, nLog, [], [], 0⟩]
def confOk (c : Conf) : Bool := validB c || sameConf c noC
def openP (l : List FileP) (cf : Conf) : Option (Kp × List ActP) :=
  if okF l = false then none
  else match goP (zeroK cf) (logD l) with
    | none => none
    | some (k, rest) => if confOk k.cf = true then some (fixK k, newA l ++ (cutOff (logD l) rest ++ fixA k)) else none
/-- what is always so of what is known -/
structure InvK (k : Kp) : Prop where
  t : 0 ≤ k.t ∧ k.t ≤ 1099511627775
  v : 0 ≤ k.v ∧ k.v ≤ 1099511627775
  c : 0 ≤ k.c ∧ k.c ≤ 1099511627775
  log : logB k.base k.bt k.es = true
  n : k.es.length ≤ 1099511627775
theorem InvK.zero (cf : Conf) : InvK (zeroK cf) := ⟨by simp [zeroK], by simp [zeroK], by simp [zeroK], by simp [zeroK, logB, headB, allB, inB], by simp [zeroK]⟩
theorem InvK.ok {k : Kp} (h : InvK k) : Ok k.base k.es := logB_ok h.log (by have := h.n; omega)
theorem rdMany_lt : ∀ (n : Nat) (acc : List Nat) (s : List UInt8) (l : List Nat) (t : List UInt8), (∀ x ∈ acc, x ≤ 1099511627775) → rdMany n acc s = .ok (l, t) → (∀ x ∈ l, x ≤ 1099511627775) ∧ l.length = acc.length + n
  | 0, acc, s, l, t, h, e => by
    injection e with e
    injection e with e1 e2
    subst e1
    exact ⟨h, rfl⟩
  | n + 1, acc, s, l, t, h, e => by
    rw [rdMany] at e
    cases hx : rdNum s with
    | error z => rw [hx] at e; cases e
    | ok p =>
      obtain ⟨x, u⟩ := p
      rw [hx] at e
      have := rdMany_lt n (acc ++ [x]) u l t (by intro y hy; rcases List.mem_append.1 hy with hy | hy; · exact h y hy
                                                 · rw [List.mem_singleton.1 hy]; exact rdNum_lt hx) e
      refine ⟨this.1, ?_⟩
      rw [this.2, List.length_append]
      simp
      omega
theorem full_ok {α : Type} {r : Res α} {x : α} (h : full r = .ok x) : r = .ok (x, []) := by
  unfold full at h
  split at h
  · cases h
  · injection h with h
    subst h
    rfl
  · cases h
theorem rdEnt_ok {s : List UInt8} {x : Ent} {t : List UInt8} (h : rdEnt s = .ok (x, t)) : isEntry x.index x.term x.kind x.data = true := by
  unfold rdEnt at h
  split at h
  · cases h
  · split at h
    · cases h
    · split at h
      · cases h
      · split at h
        · cases h
        · split at h
          · rename_i hh
            injection h with h
            injection h with h h'
            subst h
            exact hh
          · cases h
theorem rdSnap_ok {s : List UInt8} {x : Snap} {t : List UInt8} (h : rdSnap s = .ok (x, t)) : isSnap x.index x.term x.conf x.data = true := by
  unfold rdSnap at h
  split at h
  · cases h
  · split at h
    · cases h
    · split at h
      · cases h
      · split at h
        · cases h
        · split at h
          · rename_i hh
            injection h with h
            injection h with h h'
            subst h
            exact hh
          · cases h
theorem logB_len {base bt : Int} {es : List EntP} (h : logB base bt es = true) (hn : es.length ≤ 3518437208883) : es.length ≤ 1099511627775 := by
  rcases Nat.eq_zero_or_pos es.length with h0 | h0
  · omega
  · have hok := logB_ok h hn
    have h1 := hok.at_ (es.length - 1) (by omega)
    unfold logB allB at h
    simp only [Bool.and_eq_true] at h
    have h2 := (List.all_eq_true.1 h.2) (es.length - 1) (List.mem_range.2 (by omega))
    rw [List.getElem?_eq_getElem (by omega)] at h2
    simp only [okAtL, isEntry, inB, Bool.and_eq_true, decide_eq_true_eq] at h2
    have := h2.1.1.2
    have := hok.b0
    omega
theorem InvK.hard {k k' : Kp} {r : List UInt8} (h : InvK k) (e : recHard k r = some k') : InvK k' := by
  unfold recHard at e
  split at e
  · rename_i t v c hl
    split at e
    · cases e
    · injection e with e
      subst e
      have := (rdMany_lt 3 [] r _ [] (by simp) (full_ok hl)).1
      have h1 := this t (by simp)
      have h2 := this v (by simp)
      have h3 := this c (by simp)
      exact ⟨⟨by simp, by simp; omega⟩, ⟨by simp, by simp; omega⟩, ⟨by simp, by simp; omega⟩, h.log, h.n⟩
  · cases e
theorem InvK.ent {k k' : Kp} {r : List UInt8} (h : InvK k) (e : recEnt k r = some k') : InvK k' := by
  unfold recEnt at e
  split at e
  · rename_i x hx
    split at e
    · cases e
    · split at e
      · rename_i hl
        injection e with e
        subst e
        refine ⟨h.t, h.v, h.c, hl, logB_len hl ?_⟩
        rw [List.length_append, List.length_take]
        have := h.n
        simp
        omega
      · cases e
  · cases e
theorem InvK.snap {k k' : Kp} {r : List UInt8} (h : InvK k) (e : recSnap k r = some k') : InvK k' := by
  unfold recSnap at e
  split at e
  · rename_i x hx
    injection e with e
    subst e
    have h1 := rdSnap_ok (full_ok hx)
    simp only [isSnap, inB, Bool.and_eq_true, decide_eq_true_eq] at h1
    refine ⟨h.t, h.v, h.c, ?_, by simp⟩
    simp only [logB, headB, allB, inB, List.length_nil, List.range_zero, List.all_nil, Bool.and_true, Bool.and_eq_true, decide_eq_true_eq]
    refine ⟨⟨by omega, by omega⟩, ⟨by omega, by omega⟩, ?_⟩
    have e1 : ((x.index : Int) == 0) = false := beq_eq_false_iff_ne.2 (by omega)
    have e2 : ((x.term : Int) == 0) = false := beq_eq_false_iff_ne.2 (by omega)
    rw [e1, e2]
    rfl
  · cases e
theorem InvK.record {k k' : Kp} {b : List UInt8} (h : InvK k) (e : recP k b = some k') : InvK k' := by
  cases b with
  | nil => cases e
  | cons b r =>
    simp only [recP] at e
    split at e
    · exact h.hard e
    · split at e
      · exact h.ent e
      · split at e
        · exact h.snap e
        · cases e
/-- three numbers read one behind the other, by the reader that keeps its first error -/
theorem hard3 (r : List UInt8) : 
    (endS (stepS rdNum (stepS rdNum (stepS rdNum (.ok r)))) = 0 → full (rdMany 3 [] r) = .ok [stepV 0 rdNum (.ok r), stepV 0 rdNum (stepS rdNum (.ok r)), stepV 0 rdNum (stepS rdNum (stepS rdNum (.ok r)))]) ∧
    (endS (stepS rdNum (stepS rdNum (stepS rdNum (.ok r)))) ≠ 0 → ∀ l, full (rdMany 3 [] r) ≠ .ok l) := by
  have herr : ∀ {s : List UInt8} {z : Int}, rdNum s = .error z → z ≠ 0 := fun h => rdNum_err h
  simp only [rdMany]
  cases h1 : rdNum r with
  | error z =>
    have hz := herr h1
    simp [stepS, stepV, h1, rstOf, rvalOf, endS, full, hz]
  | ok p =>
    obtain ⟨a, u⟩ := p
    cases h2 : rdNum u with
    | error z =>
      have hz := herr h2
      simp [stepS, stepV, h1, h2, rstOf, rvalOf, endS, full, hz]
    | ok p =>
      obtain ⟨b, u2⟩ := p
      cases h3 : rdNum u2 with
      | error z =>
        have hz := herr h3
        simp [stepS, stepV, h1, h2, h3, rstOf, rvalOf, endS, full, hz]
      | ok p =>
        obtain ⟨c, u3⟩ := p
        cases u3 with
        | nil => simp [stepS, stepV, h1, h2, h3, rstOf, rvalOf, endS, full]
        | cons x y => simp [stepS, stepV, h1, h2, h3, rstOf, rvalOf, endS, full]
end Go.Proofs.Ytjlhlmnoomiblaa
