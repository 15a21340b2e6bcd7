/-
  What the laws on the map compare and write over.
-/
import Derived.Test.YtnmlkoidmacinaaDoorKt
namespace Go.Proofs.YtnmlkoidmacinaaDoor
open Go.RowKit Wm Mm Dg Kv
set_option linter.unusedVariables false
set_option linter.unusedSimpArgs false

abbrev Txs (F : Nat → Prop) (w : World) (v : Value) (l : List (List UInt8)) : Prop := Sl 1 (Plain rowText) F w v l
theorem own_txs {S : Nat} {w : World} {v : Value} {l : List (List UInt8)} (h : w.ownsRow S 9 1 v l.length (l.flatMap rowText)) : Txs (fun k => S ≤ k) w v l := Sl.own rowText (fun _ => rfl) h (fun _ _ => rfl) (fun _ _ h _ => h)
theorem Sl.txt {F : Nat → Prop} {w : World} {a : Option Addr} {n c : Nat} {l : List (List UInt8)} (h : Txs F w (.slice a n c) l) {k : Nat} (hk : k < l.length) :
    ∃ b off, a = some ⟨b, off, none⟩ ∧ w.cell? ⟨b, off + k, none⟩ = some (str l[k]) := by
  obtain ⟨b, off, us, e, _, _, hus, hcs⟩ := h.at hk
  have hus' : us = rowText l[k] := hus
  subst hus'
  have := hcs 0 _ rfl
  rw [Nat.mul_one, Nat.add_zero] at this
  exact ⟨b, off, e, this⟩

end Go.Proofs.YtnmlkoidmacinaaDoor
