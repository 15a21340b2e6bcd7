/-
  Results: may one be? both ways. Tables: may one be? both ways.
-/
import Derived.Test.YtkcllpbbjlbfaaaTa
import Derived.Test.YtkcllpbbjlbfaaaLs
import Derived.Lib.QuietBelow
namespace Go.Proofs.Ytkcllpbbjlbfaaa
open Go.RowKit Wm Mm
set_option linter.unusedVariables false

theorem Strs.at {w : World} {a : Option Addr} {n c : Nat} {l : List (List UInt8)} (h : Strs w (.slice a n c) l) {k : Nat} (hk : k < l.length) : ∃ b off, a = some ⟨b, off, none⟩ ∧ w.cell? ⟨b, off + k, none⟩ = some (str l[k]) := by
  obtain ⟨ao, cap, he, h1, h2⟩ := h
  obtain ⟨b, off, rfl, h3⟩ := h1 (pairs_ne hk)
  injection he with e1 e2 e3
  exact ⟨b, off, e1, h3 k l[k] (by simp [hk])⟩
theorem Strs.slice {w : World} {v : Value} {l : List (List UInt8)} (h : Strs w v l) : ∃ ao cap, v = .slice ao l.length cap ∧ l.length ≤ 9223372036854775807 := by
  obtain ⟨ao, cap, rfl, _, hm⟩ := h
  exact ⟨ao, cap, rfl, hm⟩
def prevK (l : List (List UInt8)) : Nat → List UInt8 → Bool
  | 0, _ => true
  | j + 1, x => match l[j]? with | none => true | some y => !(strGe y x)
def okKey (l : List (List UInt8)) (i : Nat) (x : List UInt8) : Bool := decide (x.length ≤ 16) && prevK l i x
def keysB (l : List (List UInt8)) : Bool := (List.range l.length).all (fun i => match l[i]? with | none => true | some p => okKey l i p)
def resB (kind : Int) (val : List UInt8) (ver : Int) (keys : List (List UInt8)) : Bool := keysB keys && (inB kind 0 8 && (decide (val.length ≤ 64) && (inB ver 0 1099511627775 && decide (keys.length ≤ 32))))
abbrev vRes (kind : Int) (val : List UInt8) (ver : Int) (kv : Value) : Value := .agg #[.int .i64 kind, str val, .int .i64 ver, kv]
theorem keysB_no {l : List (List UInt8)} {k : Nat} (hk : k < l.length) (h : okKey l k l[k] = false) : keysB l = false := by
  rw [keysB, List.all_eq_false]
  exact ⟨k, List.mem_range.2 hk, by rw [List.getElem?_eq_getElem hk]; simp [h]⟩
theorem keysB_all {l : List (List UInt8)} (h : ∀ i p, i < l.length → l[i]? = some p → okKey l i p = true) : keysB l = true := by
  rw [keysB, List.all_eq_true]
  intro i hi
  have hl := List.mem_range.1 hi
  rw [List.getElem?_eq_getElem hl]
  exact h i _ hl (by simp [hl])

end Go.Proofs.Ytkcllpbbjlbfaaa

namespace Go.Proofs.Ytkcllpbbjlbfaaa
open Go.RowKit Wm Mm
set_option linter.unusedVariables false

structure SessP where
  client : Int
  last : Int
  kind : Int
  val : List UInt8
  ver : Int
  keys : List (List UInt8)
  seen : Int
abbrev rowSess (s : SessP) (kv : Value) : List Value := [.int .i64 s.client, .int .i64 s.last, .int .i64 s.kind, str s.val, .int .i64 s.ver, kv, .int .i64 s.seen]
abbrev SessR (w : World) (vs : List Value) (s : SessP) : Prop := ∃ kv, vs = rowSess s kv ∧ Strs w kv s.keys
abbrev Sessions (w : World) (v : Value) (l : List SessP) : Prop := RecsP 7 SessR w v l
theorem Sessions.mono {w w' : World} {v : Value} {l : List SessP} (h : Sessions w v l) (hb : Below w.heap.size w w') : Sessions w' v l :=
  RecsP.mono (fun vs x ⟨kv, h1, h2⟩ => ⟨kv, h1, h2.mono hb⟩) h hb
theorem Sessions.at {w : World} {a : Option Addr} {n c : Nat} {l : List SessP} (h : Sessions w (.slice a n c) l) {k : Nat} (hk : k < l.length) : ∃ b off kv, a = some ⟨b, off, none⟩ ∧ Strs w kv l[k].keys ∧ (∀ i u, (rowSess l[k] kv)[i]? = some u → w.cell? ⟨b, off + k * 7 + i, none⟩ = some u) := by
  obtain ⟨ao, cap, he, h1, h2⟩ := h
  obtain ⟨b, off, rfl, h3⟩ := h1 (pairs_ne hk)
  injection he with e1 e2 e3
  obtain ⟨vs, _, ⟨kv, rfl, h5⟩, h4⟩ := h3 k l[k] (by simp [hk])
  exact ⟨b, off, kv, e1, h5, h4⟩
def prevC (l : List SessP) : Nat → Int → Bool
  | 0, _ => true
  | j + 1, x => match l[j]? with | none => true | some y => decide (y.client < x)
def okSess (time : Int) (l : List SessP) (i : Nat) (s : SessP) : Bool := inB s.client 1 1099511627775 && (prevC l i s.client && (inB s.last 0 1099511627775 && (inB s.seen 0 time && resB s.kind s.val s.ver s.keys)))
def sessB (time : Int) (l : List SessP) : Bool := (List.range l.length).all (fun i => match l[i]? with | none => true | some p => okSess time l i p)
structure Tab where
  pairs : List PairP
  sess : List SessP
  time : Int
def tabB (t : Tab) : Bool := pairsB t.pairs && (decide (t.sess.length ≤ 8) && (inB t.time 0 1099511627775 && sessB t.time t.sess))
/-- two slices are this table -/
structure Table2 (w : World) (vp vs : Value) (t : Tab) : Prop where
  p : Pairs w vp t.pairs
  s : Sessions w vs t.sess
theorem Table2.mono {w w' : World} {vp vs : Value} {t : Tab} (h : Table2 w vp vs t) (hb : Below w.heap.size w w') : Table2 w' vp vs t := ⟨h.p.mono hb, h.s.mono hb⟩
theorem sessB_no {time : Int} {l : List SessP} {k : Nat} (hk : k < l.length) (h : okSess time l k l[k] = false) : sessB time l = false := by
  rw [sessB, List.all_eq_false]
  exact ⟨k, List.mem_range.2 hk, by rw [List.getElem?_eq_getElem hk]; simp [h]⟩
theorem sessB_all {time : Int} {l : List SessP} (h : ∀ i p, i < l.length → l[i]? = some p → okSess time l i p = true) : sessB time l = true := by
  rw [sessB, List.all_eq_true]
  intro i hi
  have hl := List.mem_range.1 hi
  rw [List.getElem?_eq_getElem hl]
  exact h i _ hl (by simp [hl])

end Go.Proofs.Ytkcllpbbjlbfaaa
