/-
  Logs, in plain Lean: what becomes of entries behind a base. No program in sight. Logs: the last index, an index's term, where a leader is to look: both ways.
-/
import Derived.Test.YtjlhlmnoomiblaaZ01
import Derived.Test.YtjlhlmnoomiblaaZ04
import Derived.Test.YtjlhlmnoomiblaaZ03
import Derived.WalkKit
import Derived.WalkSpells
import Derived.WalkLawsBesides
import Derived.Lib.Hide
import Derived.Deep.DeepCutAuto
import Derived.Deep.QuietTactic
import Derived.BigQuiet
import Derived.Deep.CutBlock
import Derived.Deep.RegionWith
namespace Go.Proofs.Ytjlhlmnoomiblaa.Lg
open Wm Mm
set_option linter.unusedVariables false
set_option linter.unusedSimpArgs false

structure EntP where
  idx : Int
  trm : Int
  knd : Int
  dat : List UInt8
deriving DecidableEq
abbrev rowE (e : EntP) : List Value := [.int .i64 e.idx, .int .i64 e.trm, .int .i64 e.knd, str e.dat]
abbrev Ents (F : Nat → Prop) (w : World) (v : Value) (l : List EntP) : Prop := Sl 4 (Plain rowE) F w v l

/-- a base and entries behind it, one number after the other -/
structure Ok (base : Int) (es : List EntP) : Prop where
  b0 : 0 ≤ base
  b1 : base ≤ 1099511627775
  n : es.length ≤ 2199023255552
  at_ : ∀ k (h : k < es.length), es[k].idx = base + 1 + k

def lastT (bt : Int) (es : List EntP) : Int := match es.getLast? with | some e => e.trm | none => bt
/-- the term of an index, and an error -/
def termAt (base bt : Int) (es : List EntP) (i : Int) : Int × Int :=
  if i < base then (0, 11) else if base + es.length < i then (0, 12) else if i = base then (bt, 0) else match es[(i - base - 1).toNat]? with | some e => (e.trm, 0) | none => (0, 12)
/-- so far down as the terms are one -/
def down (base bt : Int) (es : List EntP) (t : Int) : Nat → Int → Int
  | 0, p => p
  | n + 1, p => if base + 1 < p ∧ (termAt base bt es (p - 1)).1 = t then down base bt es t n (p - 1) else p
def firstOf (base bt : Int) (es : List EntP) (p : Int) : Int := down base bt es (termAt base bt es p).1 (p - base).toNat p
def hintOf (base bt : Int) (es : List EntP) (p : Int) : Int := if base + es.length < p then base + es.length + 1 else firstOf base bt es p
/-- what lies ahead of the base is left out -/
def skip (base : Int) : Int → Int → List EntP → Int × Int × List EntP
  | p, t, [] => (p, t, [])
  | p, t, e :: r => if p < base then skip base e.idx e.trm r else (p, t, e :: r)
/-- is an entry there already? -/
def fits (base bt : Int) (out : List EntP) (e : EntP) : Bool := decide ((termAt base bt out e.idx) = (e.trm, 0))
/-- entries put one behind the other -/
def put (base bt : Int) : List EntP → Int → List EntP → List EntP × Int
  | out, first, [] => (out, first)
  | out, first, e :: r =>
    if fits base bt out e = true then put base bt out first r
    else if first = 0 then put base bt (out.take (e.idx - base - 1).toNat ++ [e]) e.idx r
    else put base bt (out ++ [e]) first r
def lastI (p : Int) (r : List EntP) : Int := match r.getLast? with | some e => e.idx | none => p
structure Ext where
  es : List EntP
  mat : Int
  first : Int
  look : Int
def ext (base bt : Int) (l : List EntP) (prev term : Int) (es : List EntP) : Ext :=
  let s := skip base prev term es
  if s.1 < base then ⟨l, s.1, 0, 0⟩
  else if termAt base bt l s.1 = (s.2.1, 0) then
    let o := put base bt l 0 s.2.2
    ⟨o.1, lastI s.1 s.2.2, o.2, 0⟩
  else ⟨l, 0, 0, hintOf base bt l s.1⟩

theorem Ok.take {base : Int} {es : List EntP} (h : Ok base es) (n : Nat) : Ok base (es.take n) :=
  ⟨h.b0, h.b1, Nat.le_trans (by rw [List.length_take]; omega) h.n, fun k hk => by
    rw [List.length_take] at hk
    rw [List.getElem_take]; exact h.at_ k (by omega)⟩
theorem Ok.push {base : Int} {es : List EntP} (h : Ok base es) {e : EntP} (he : e.idx = base + 1 + es.length) (hn : es.length + 1 ≤ 2199023255552) : Ok base (es ++ [e]) := by
  refine ⟨h.b0, h.b1, by simpa using hn, fun k hk => ?_⟩
  rw [List.length_append] at hk
  simp at hk
  rcases Nat.lt_or_ge k es.length with h1 | h1
  · rw [List.getElem_append_left h1]; exact h.at_ k h1
  · obtain rfl : k = es.length := by omega
    rw [List.getElem_append_right (Nat.le_refl _)]; simp [he]
theorem termAt_in {base bt : Int} {es : List EntP} {i : Int} (h1 : base < i) (h2 : i ≤ base + es.length) : ∃ h : (i - base - 1).toNat < es.length, termAt base bt es i = (es[(i - base - 1).toNat].trm, 0) := by
  have hl : (i - base - 1).toNat < es.length := by omega
  refine ⟨hl, ?_⟩
  unfold termAt
  rw [if_neg (by omega), if_neg (by omega), if_neg (by omega), List.getElem?_eq_getElem hl]
theorem termAt_far {base bt : Int} {es : List EntP} {i : Int} (h1 : base ≤ i) (h2 : base + es.length < i) : termAt base bt es i = (0, 12) := by
  unfold termAt
  rw [if_neg (by omega), if_pos h2]
theorem termAt_low {base bt : Int} {es : List EntP} {i : Int} (h1 : i < base) : termAt base bt es i = (0, 11) := by
  unfold termAt
  rw [if_pos h1]
theorem termAt_base (base bt : Int) (es : List EntP) : termAt base bt es base = (bt, 0) := by
  unfold termAt
  rw [if_neg (by omega), if_neg (by omega), if_pos rfl]
/-- entries that stand behind an index -/
def Behind (p : Int) (r : List EntP) : Prop := ∀ k (h : k < r.length), r[k].idx = p + 1 + k
theorem Behind.head {p : Int} {e : EntP} {r : List EntP} (h : Behind p (e :: r)) : e.idx = p + 1 := by
  have := h 0 (by simp); simpa using this
theorem Behind.tail {p : Int} {e : EntP} {r : List EntP} (h : Behind p (e :: r)) : Behind (p + 1) r := fun k hk => by
  have := h (k + 1) (by simpa using hk)
  simp at this
  rw [this]; omega
theorem Behind.last {r : List EntP} : ∀ {p : Int}, Behind p r → lastI p r = p + r.length := by
  intro p h
  unfold lastI
  rcases r.eq_nil_or_concat with rfl | ⟨s, e, rfl⟩
  · simp
  · have := h s.length (by simp)
    simp at this ⊢
    rw [this]; omega
theorem skip_behind (base : Int) : ∀ (r : List EntP) (p t : Int), Behind p r → Behind (skip base p t r).1 (skip base p t r).2.2 ∧ p ≤ (skip base p t r).1 ∧ (skip base p t r).1 + (skip base p t r).2.2.length = p + r.length ∧ (skip base p t r).2.2.length ≤ r.length
  | [], p, t, h => by simp [skip]; exact fun k hk => by simp at hk
  | e :: r, p, t, h => by
    unfold skip
    split
    · obtain ⟨h1, h2, h3, h4⟩ := skip_behind base r e.idx e.trm (by rw [h.head]; exact h.tail)
      rw [h.head] at h1 h2 h3 h4 ⊢
      refine ⟨h1, by omega, by rw [h3]; simp; omega, by simp; omega⟩
    · exact ⟨h, Int.le_refl _, rfl, Nat.le_refl _⟩
/-- behind the first one that is new all are new -/
theorem put_new (base bt : Int) : ∀ (r : List EntP) (out : List EntP) (first : Int), first ≠ 0 → Behind (base + out.length) r → put base bt out first r = (out ++ r, first)
  | [], out, first, _, _ => by simp [put]
  | e :: r, out, first, hf, hb => by
    have he := hb.head
    have h1 : fits base bt out e = false := by
      unfold fits
      rw [termAt_far (by omega) (by omega)]
      simp
    rw [put, h1, if_neg (by simp), if_neg hf, put_new base bt r (out ++ [e]) first hf (by
      have h2 := hb.tail
      rw [show base + ((out ++ [e]).length : Int) = base + out.length + 1 from by simp; omega]; exact h2)]
    simp
/-- an entry that stands right behind what is there, or within it -/
theorem put_ok {base bt : Int} : ∀ (r : List EntP) (out : List EntP) (p : Int), Ok base out → base ≤ p → p ≤ base + out.length → Behind p r → out.length + r.length ≤ 2199023255552 → Ok base (put base bt out 0 r).1
  | [], out, p, ho, _, _, _, _ => by simpa [put] using ho
  | e :: r, out, p, ho, h1, h2, hb, hn => by
    have he := hb.head
    rw [put]
    split
    · rename_i hf
      have hle : p + 1 ≤ base + out.length := by
        by_cases h : base + out.length < p + 1
        · unfold fits at hf
          rw [he, termAt_far (by omega) h] at hf
          simp at hf
        · omega
      exact put_ok r out (p + 1) ho (by omega) hle hb.tail (by simp at hn; omega)
    · rw [if_pos rfl]
      have hlt : (out.take (e.idx - base - 1).toNat).length = (e.idx - base - 1).toNat := by rw [List.length_take]; omega
      have h0 := ho.b0
      have hk : Ok base (out.take (e.idx - base - 1).toNat ++ [e]) := (ho.take _).push (by rw [hlt]; omega) (by rw [hlt]; simp at hn; omega)
      rw [put_new base bt r _ e.idx (by omega) (by
        rw [List.length_append, hlt]
        rw [show base + (((e.idx - base - 1).toNat + [e].length : Nat) : Int) = p + 1 from by rw [List.length_singleton]; omega]; exact hb.tail)]
      refine ⟨ho.b0, ho.b1, ?_, fun k hk2 => ?_⟩
      · simp; simp at hn; omega
      · rcases Nat.lt_or_ge k (out.take (e.idx - base - 1).toNat ++ [e]).length with h | h
        · simp only []
          rw [List.getElem_append_left h]; exact hk.at_ k h
        · simp only [] at hk2 ⊢
          rw [List.getElem_append_right h]
          have hl2 : (out.take (e.idx - base - 1).toNat ++ [e]).length = (e.idx - base - 1).toNat + 1 := by rw [List.length_append, hlt]; rfl
          have := hb.tail (k - (out.take (e.idx - base - 1).toNat ++ [e]).length) (by rw [List.length_append] at hk2; omega)
          rw [this, hl2]; rw [hl2] at h; omega
/-- the document's way: up to the first that is another -/
def refPut (base bt : Int) (l : List EntP) : List EntP → List EntP × Int
  | [] => (l, 0)
  | e :: r => if fits base bt l e = true then refPut base bt l r else (l.take (e.idx - base - 1).toNat ++ (e :: r), e.idx)
theorem put_ref {base bt : Int} : ∀ (r : List EntP) (out : List EntP) (p : Int), 0 ≤ base → base ≤ p → p ≤ base + out.length → Behind p r → put base bt out 0 r = refPut base bt out r
  | [], out, p, _, _, _, _ => rfl
  | e :: r, out, p, h0, h1, h2, hb => by
    have he := hb.head
    rw [put, refPut]
    split
    · rename_i hf
      have hle : p + 1 ≤ base + out.length := by
        by_cases h : base + out.length < p + 1
        · unfold fits at hf
          rw [he, termAt_far (by omega) h] at hf
          simp at hf
        · omega
      exact put_ref r out (p + 1) h0 (by omega) hle hb.tail
    · rw [if_pos rfl]
      have hlt : (out.take (e.idx - base - 1).toNat).length = (e.idx - base - 1).toNat := by rw [List.length_take]; omega
      rw [put_new base bt r _ e.idx (by omega) (by
        rw [List.length_append, hlt]
        rw [show base + (((e.idx - base - 1).toNat + [e].length : Nat) : Int) = p + 1 from by rw [List.length_singleton]; omega]; exact hb.tail)]
      simp
end Go.Proofs.Ytjlhlmnoomiblaa.Lg

namespace Go.Proofs.Ytjlhlmnoomiblaa
open Go.RowKit Wm Mm Lg
set_option linter.unusedVariables false
set_option linter.unusedSimpArgs false

abbrev vLog (base bt : Int) (ev : Value) : Value := .agg #[.int .i64 base, .int .i64 bt, ev]
abbrev oLog (base bt : Int) (ev : Value) : Array Value := #[.int .i64 base, .int .i64 bt, ev]
theorem below_drew' {B : Nat} {w w' : World} (h : Below B w w') (n : Nat) : Below B w (w'.drewN n) := ⟨h.os, h.tape, h.output, h.size, h.block⟩
theorem lastT_cons {bt : Int} {es : List EntP} {m : Nat} (h : es.length = m + 1) : lastT bt es = (es[m]'(by omega)).trm := by
  unfold lastT
  have e : es.length - 1 = m := by omega
  rw [List.getLast?_eq_getElem?, e, List.getElem?_eq_getElem (by omega)]

set_option maxHeartbeats 1000000 in
theorem wire_last (base bt : Int) (ev : Value) (es : List EntP) (F : Nat → Prop) (w : World) (h : Ents F w ev es) (hk : Ok base es) :
    Calls Try.prog 18 #[vLog base bt ev] w fun e w' => e = .returned (.tuple #[.int .i64 (base + es.length), .int .i64 (lastT bt es)]) ∧ Below w.heap.size w w' := by
  obtain ⟨ao, cap, rfl, hcap, hmax⟩ := h.slice
  obtain ⟨W, hW⟩ := hide (w.alloc (.cells (oLog base bt (.slice ao es.length cap)) 29))
  have hc : W.heap[w.heap.size]? = some (.cells (oLog base bt (.slice ao es.length cap)) 29 (0, 0)) := by rw [← hW.out]; exact hp_at _ _ rfl
  have hb0 : Below w.heap.size w W := by rw [← hW.out]; exact (Below.refl _ _).alloc (Nat.le_refl _) _
  have h2 := h.frame (Plain.good _) (Agree.below hb0)
  obtain ⟨B, hB⟩ := hide w.heap.size
  rw [hB.out] at hc
  have c0 := cell_n hc 0 (v := .int .i64 base) rfl
  have c1 := cell_n hc 1 (v := .int .i64 bt) rfl
  have Hb0 := Lib.hid hb0
  have Hk := Lib.hid hk
  cases hl : es.length with
  | zero =>
    have e1 : es = [] := List.eq_nil_of_length_eq_zero hl
    rw [hl] at hc hW
    subst e1
    have c2 := cell_n hc 2 (v := .slice ao 0 cap) rfl
    clear hc h h2 hb0 hk hl hcap hmax
    go_enter Try.func18, Try.ntmps18
    go_upto_region 1 with fail
    rw [hW.out, hB.out]
    go_wp2_with (go_quiet (fail))
    go_ret2
    exact ⟨by simp [lastT], below_drew' Hb0.out _⟩
  | succ m =>
    have hm : m < es.length := by omega
    rw [hl] at h2 hc hW
    obtain ⟨b, off, us, rfl, _, _, hus, hcs⟩ := h2.at hm
    have hi := hk.at_ m hm
    have ht := lastT_cons (bt := bt) hl
    obtain ⟨x, hx⟩ := hide es[m]
    rw [hx.out] at hus hi ht
    have hus' : us = rowE x := hus
    subst hus'
    have d0 := hcs 0 _ rfl
    have d1 := hcs 1 _ rfl
    rw [Nat.add_zero] at d0
    have c2 := cell_n hc 2 (v := .slice (some ⟨b, off, none⟩) (m + 1) cap) rfl
    have Hi := Lib.hid hi
    have Ht := Lib.hid ht
    have Hl := Lib.hid hl
    have hm2 : m + 1 ≤ 9223372036854775807 := by omega
    have p1 : (0 : Int) ≤ (m : Int) := by omega
    have p2 : (m : Int) < ((m + 1 : Nat) : Int) := by omega
    have p3 : ((m + 1 : Nat) : Int) - 1 = (m : Int) := by omega
    clear hc h h2 hb0 hk hl hcap hmax hus hcs hi ht
    go_enter Try.func18, Try.ntmps18
    go_upto_region 1 with fail
    rw [hW.out, hB.out]
    go_wp2_with (go_quiet (fail))
    go_ret2
    exact ⟨by rw [Hi.out, Ht.out, show base + ((m + 1 : Nat) : Int) = base + 1 + (m : Int) from by omega]; rfl, below_drew' Hb0.out _⟩

/-- a log's struct in a block of its own, that stays -/
theorem logKept {w W : World} {B : Nat} {cs : Array Value} {T : TypeId} (hc : W.heap[B]? = some (.cells cs T (0, 0))) : ∀ w', Below W.heap.size W w' → w'.heap[B]? = some (.cells cs T (0, 0)) := fun w' h => (h.block _ (lt_of_block hc)).trans hc

end Go.Proofs.Ytjlhlmnoomiblaa
