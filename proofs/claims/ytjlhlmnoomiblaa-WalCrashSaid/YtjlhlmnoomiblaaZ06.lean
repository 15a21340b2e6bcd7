/-
  Logs: the document's small functions; where a leader is to look; is a log as far as another? Copies of entries and of logs; comparing them; writing over them. A log that the law hands in; whether it was left alone; writing over entries. Commands and requests, both ways.
-/
import Derived.Test.YtjlhlmnoomiblaaZ05
import Derived.Lib.QuietBelow
import Derived.Test.YtjlhlmnoomiblaaZ01
import Derived.WalkSpells
import Derived.WalkLawsBesides
import Derived.Lib.Hide
import Derived.BigGuardPart
namespace Go.Proofs.Ytjlhlmnoomiblaa
open Go.RowKit Wm Mm Lg
set_option linter.unusedVariables false
set_option linter.unusedSimpArgs false

theorem lastT_at {base bt : Int} {es : List EntP} (hk : Ok base es) : termAt base bt es (base + es.length) = (lastT bt es, 0) := by
  cases hl : es.length with
  | zero =>
    obtain rfl : es = [] := List.eq_nil_of_length_eq_zero hl
    rw [show base + ((0 : Nat) : Int) = base from by simp, termAt_base]; rfl
  | succ m =>
    obtain ⟨h, e⟩ := termAt_in (base := base) (bt := bt) (es := es) (i := base + ((m + 1 : Nat) : Int)) (by omega) (by omega)
    rw [e, lastT_cons hl]
    have : (base + ((m + 1 : Nat) : Int) - base - 1).toNat = m := by omega
    simp only [this]
def freshB (base bt : Int) (es : List EntP) (index term : Int) : Bool := decide (lastT bt es < term) || (term == lastT bt es && decide (base + es.length ≤ index))
theorem down_stop {base bt : Int} {es : List EntP} {t : Int} : ∀ (n : Nat) (p : Int), ¬ (base + 1 < p ∧ (termAt base bt es (p - 1)).1 = t) → down base bt es t n p = p
  | 0, p, _ => rfl
  | n + 1, p, h => by rw [down, if_neg h]
theorem down_go {base bt : Int} {es : List EntP} {t : Int} {n : Nat} {p : Int} (h : base + 1 < p ∧ (termAt base bt es (p - 1)).1 = t) (hn : (p - base).toNat ≤ n) : down base bt es t n p = down base bt es t (n - 1) (p - 1) := by
  cases n with
  | zero => omega
  | succ n => rw [down, if_pos h]; rfl

end Go.Proofs.Ytjlhlmnoomiblaa

namespace Go.Proofs.Ytjlhlmnoomiblaa
open Go.RowKit Wm Mm Lg
set_option linter.unusedVariables false
set_option linter.unusedSimpArgs false

theorem info_ent : (Try.prog.info? 37).map (fun i => (i.zero, i.size, i.bytes)) = some (some (.agg #[.int .i64 0, .int .i64 0, .int .i64 0, .string ByteArray.empty]), 4, 40) := by kernel_rfl
theorem rowE_len (e : EntP) : (rowE e).length = 4 := rfl
theorem rowE_one (e : EntP) : ∀ u ∈ rowE e, u.oneCell' = true := by intro u hu; simp at hu; rcases hu with rfl | rfl | rfl | rfl <;> rfl
abbrev OwnE (S : Nat) (w : World) (v : Value) (l : List EntP) : Prop := w.ownsRow S 37 4 v l.length (l.flatMap rowE)
theorem OwnE.ents {S : Nat} {w : World} {v : Value} {l : List EntP} (h : OwnE S w v l) : Ents (fun k => S ≤ k) w v l := Sl.own rowE rowE_len h (fun _ _ => rfl) (fun _ _ h _ => h)

abbrev e99 : EntP := ⟨99, 0, 0, []⟩
end Go.Proofs.Ytjlhlmnoomiblaa

namespace Go.Proofs.Ytjlhlmnoomiblaa
open Go.RowKit Wm Mm Lg
set_option linter.unusedVariables false
set_option linter.unusedSimpArgs false

theorem own_put {w : World} {S : Nat} {e : TypeId} {size n g cap : Nat} {xs : List Value} (h : w.ownsRow S e size (.slice (some ⟨g, 0, none⟩) n cap) n xs) (i : Nat) (u : Value) : (w.setCell ⟨g, i, none⟩ u).ownsRow S e size (.slice (some ⟨g, 0, none⟩) n cap) n (xs.set i u) := by
  refine ⟨by rw [List.length_set]; exact h.1, ?_⟩
  rcases h.2 with ⟨hv, _⟩ | ⟨g', cap', cur, hv, hb, hg, hn, hc, hs, ht⟩
  · cases hv
  · injection hv with e1 e2 e3
    injection e1 with e1
    injection e1 with e1
    subst e1 e3
    refine Or.inr ⟨g, _, cur.setIfInBounds i u, rfl, hb, by rw [heap_setCell, if_pos rfl, hg]; simp [storeIn], hn, hc, by simpa using hs, ?_⟩
    rw [Array.toList_setIfInBounds, List.take_set, ht]
theorem own_free {w : World} {S : Nat} {e : TypeId} {size n g cap : Nat} {xs : List Value} (h : w.ownsRow S e size (.slice (some ⟨g, 0, none⟩) n cap) n xs) (i : Nat) : w.frozen? ⟨g, i, none⟩ = false := by
  rcases h.2 with ⟨hv, _⟩ | ⟨g', cap', cur, hv, hb, hg, hn, hc, hs, ht⟩
  · cases hv
  · injection hv with e1 e2 e3
    injection e1 with e1
    injection e1 with e1
    subst e1
    exact free_n hg i
theorem own_cell {w : World} {S : Nat} {e : TypeId} {size n g cap : Nat} {xs : List Value} (h : w.ownsRow S e size (.slice (some ⟨g, 0, none⟩) n cap) n xs) {i : Nat} {u : Value} (hu : xs[i]? = some u) : w.cell? ⟨g, i, none⟩ = some u := by
  have := h.cells (g := g) rfl i u hu
  have hadd : (⟨g, 0, none⟩ : Addr).add i = ⟨g, i, none⟩ := by unfold Addr.add; split <;> simp_all
  rwa [hadd] at this
theorem own_lt {w : World} {S : Nat} {e : TypeId} {size n g cap : Nat} {xs : List Value} (h : w.ownsRow S e size (.slice (some ⟨g, 0, none⟩) n cap) n xs) : n ≤ cap ∧ cap ≤ 9223372036854775807 ∧ S ≤ g ∧ g < w.heap.size := by
  rcases h.2 with ⟨hv, _⟩ | ⟨g', cap', cur, hv, hb, hg, hn, hc, hs, ht⟩
  · cases hv
  · injection hv with e1 e2 e3
    injection e1 with e1
    injection e1 with e1
    subst e1 e3
    exact ⟨hn, by unfold maxLen at hc; omega, hb, lt_of_block hg⟩

end Go.Proofs.Ytjlhlmnoomiblaa

namespace Go.Proofs.Ytjlhlmnoomiblaa
open Go.RowKit Wm Mm
set_option linter.unusedVariables false

def inB (n low high : Int) : Bool := decide (low ≤ n) && decide (n ≤ high)

set_option maxHeartbeats 400000 in
theorem in_any (n low high : Int) (w : World) :
    Calls Try.prog 53 #[.int .i64 n, .int .i64 low, .int .i64 high] w fun e w' => e = .returned (.bool (inB n low high)) ∧ w = w' := by
  by_cases h1 : low ≤ n
  · have t1 : decide (low ≤ n) = true := decide_eq_true h1
    have e1 : inB n low high = decide (n ≤ high) := by unfold inB; rw [t1]; rfl
    rw [e1]
    clear h1 e1
    go_enter Try.func53, Try.ntmps53
    go_wp2
    go_ret
    exact ⟨rfl, rfl⟩
  · have t1 : decide (low ≤ n) = false := decide_eq_false h1
    have e1 : inB n low high = false := by unfold inB; rw [t1]; rfl
    rw [e1]
    clear h1 e1
    go_enter Try.func53, Try.ntmps53
    go_wp2
    go_ret
    exact ⟨rfl, rfl⟩

/-- may a command be? -/
def isCommand (kind : Int) (key val : List UInt8) (iff : Int) : Bool :=
  inB kind 1 6 && decide (key.length ≤ 16) && decide (val.length ≤ 64) && inB iff 0 1099511627775 &&
    (if kind = 6 then val == [] else if kind = 2 ∨ kind = 3 then (val == [] && iff == 0 && !(key == [])) else if kind = 1 ∨ kind = 5 then (iff == 0 && !(key == [])) else !(key == []))
abbrev vCmd (kind : Int) (key val : List UInt8) (iff : Int) : Value := .agg #[.int .i64 kind, str key, str val, .int .i64 iff]

end Go.Proofs.Ytjlhlmnoomiblaa
