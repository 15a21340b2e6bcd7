/-
  Entries as the laws copy and compare them.
-/
import Derived.Test.YtcgfbmlmpcfbgaaEq
import Derived.Test.YtcgfbmlmpcfbgaaLg
import Derived.Deep.DeepCutAuto
import Derived.Deep.QuietTactic
import Derived.BigQuiet
namespace Go.Proofs.Ytcgfbmlmpcfbgaa
open Go.RowKit Wm Mm Lg
set_option linter.unusedVariables false
set_option linter.unusedSimpArgs false

theorem below_drew' {B : Nat} {w w' : World} (h : Below B w w') (n : Nat) : Below B w (w'.drewN n) := ⟨h.os, h.tape, h.output, h.size, h.block⟩
theorem info_ent : (Try.prog.info? 34).map (fun i => (i.zero, i.size, i.bytes)) = some (some (.agg #[.int .i64 0, .int .i64 0, .int .i64 0, .string ByteArray.empty]), 4, 40) := by kernel_rfl
theorem rowE_len (e : EntP) : (rowE e).length = 4 := rfl
theorem rowE_one (e : EntP) : ∀ u ∈ rowE e, u.oneCell' = true := by intro u hu; simp at hu; rcases hu with rfl | rfl | rfl | rfl <;> rfl
abbrev OwnE (S : Nat) (w : World) (v : Value) (l : List EntP) : Prop := w.ownsRow S 34 4 v l.length (l.flatMap rowE)
theorem OwnE.ents {S : Nat} {w : World} {v : Value} {l : List EntP} (h : OwnE S w v l) : Ents (fun k => S ≤ k) w v l := Sl.own rowE rowE_len h (fun _ _ => rfl) (fun _ _ h _ => h)
abbrev e99 : EntP := ⟨99, 0, 0, []⟩
end Go.Proofs.Ytcgfbmlmpcfbgaa
