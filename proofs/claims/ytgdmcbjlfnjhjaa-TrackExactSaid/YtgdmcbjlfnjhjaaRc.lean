/-
  The reader that panics: its small methods, walked. Each call is shown to give what the plain reader gives, or to panic with its error. The reader that keeps its first error: its small methods, walked. A deferred call that begins with recover: the rest of its text is walked as any other. What a reading of all bytes comes to: the deferred catch, and the reading itself.
-/
import Derived.Test.YtgdmcbjlfnjhjaaWm
import Derived.WalkKit
import Derived.WalkSpells
import Derived.WalkLawsBesides
import Derived.Lib.Hide
import Derived.Deep.QuietTactic
import Derived.BigQuiet
import Derived.Test.YtgdmcbjlfnjhjaaMm
namespace Go.Proofs.Ytgdmcbjlfnjhjaa
open Go.RowKit Wm Mm
set_option linter.unusedVariables false

end Go.Proofs.Ytgdmcbjlfnjhjaa

namespace Go.Proofs.Ytgdmcbjlfnjhjaa
open Go.RowKit Wm Mm
set_option linter.unusedVariables false

theorem two_cell0 {w : World} {b : Nat} {u v : Value} {t : TypeId} (h : w.heap[b]? = some (.cells #[u, v] t (0, 0))) : w.cell? ⟨b, 0, none⟩ = some u := by simp [World.cell?, h]
theorem two_cell1 {w : World} {b : Nat} {u v : Value} {t : TypeId} (h : w.heap[b]? = some (.cells #[u, v] t (0, 0))) : w.cell? ⟨b, 1, none⟩ = some v := by simp [World.cell?, h]
theorem two_free {w : World} {b i : Nat} {u v : Value} {t : TypeId} (h : w.heap[b]? = some (.cells #[u, v] t (0, 0))) : w.frozen? ⟨b, i, none⟩ = false := by simp [World.frozen?, h]
theorem two_set0 {w : World} {b : Nat} {u v x : Value} {t : TypeId} (h : w.heap[b]? = some (.cells #[u, v] t (0, 0))) : (w.setCell ⟨b, 0, none⟩ x).heap[b]? = some (.cells #[x, v] t (0, 0)) := by
  rw [heap_setCell]; simp [h, storeIn]
theorem two_set1 {w : World} {b : Nat} {u v x : Value} {t : TypeId} (h : w.heap[b]? = some (.cells #[u, v] t (0, 0))) : (w.setCell ⟨b, 1, none⟩ x).heap[b]? = some (.cells #[u, x] t (0, 0)) := by
  rw [heap_setCell]; simp [h, storeIn]

end Go.Proofs.Ytgdmcbjlfnjhjaa

namespace Go.Proofs.Ytgdmcbjlfnjhjaa.Mm

/-- what recover gives a deferred call over these frames, and the frames behind it -/
def recovered (cs : List Frame) : Value × List Frame :=
  match recoverD cs with
  | some p => p
  | none => (.nilIface, cs)

theorem wpS_seq_recover {P : Program} {Q : Exit → Act → List Frame → World → Prop} {a : Act} {cs : List Frame} {w : World} {id : Nat} {o : Oper} {rest : List Oper} {y : Code} {v : Value} {cs' : List Frame}
    (hg : o.guard = none) (hr : (execOp a.eval o).run P w = .ok .recover w) (hrec : recovered cs = (v, cs'))
    (h : wpList P (o :: rest).toArray (Exit.then (fun a' w' => y.wp P (fun e a w => Q e a cs' w) a' w') (fun e a w => Q e a cs' w)) rest (a.put o.dst v) w) :
    (Code.seq (Code.region id (o :: rest).toArray false) y).wpS P Q a cs w := by
  apply wpS_seq
  intro b k hb hro
  have hops := wpOps_eq_wpList (P := P) (ops := (o :: rest).toArray) (Q := Exit.then (fun a' w' => y.wp P (fun e a w => Q e a cs' w) a' w') (fun e a w => Q e a cs' w)) rest 1 (fun j => by simp [Nat.add_comm 1 j])
  obtain ⟨e, a', w', hq, harr⟩ := wp_ops (List.range' 1 rest.length) (a.put o.dst v) w (by rw [hops]; exact h) b k cs'
  have ho : ((o :: rest).toArray)[0]? = some o := by simp
  have hw : Region.wanted o (yielded (o :: rest).toArray a.tmps) = true := by simp [Region.wanted, hg]
  have hgo := stepG_op (P := P) (b := b) (a := a) (k := k) (cs := cs) (w := w) (i := 0) (rest := List.range' 1 rest.length) ho hw
  have hfin : ∀ v, (b.at a (.inRegion (o :: rest).toArray (0 :: List.range' 1 rest.length) :: k)).finish v = b.at (a.put o.dst v) (.inRegion (o :: rest).toArray (List.range' 1 rest.length) :: k) := by
    intro v; rw [Frame.finish_at, ho]; rfl
  have hk : (b.at a (.inRegion (o :: rest).toArray (0 :: List.range' 1 rest.length) :: k)).kind = .deferred := hb
  have htr := tryRecover_deferred hk cs
  have hrange : List.range ((o :: rest).toArray).size = 0 :: List.range' 1 rest.length := by
    simp [List.range_eq_range', List.range'_succ]
  have hstep : step P (lone (b.at a (.inRegion (o :: rest).toArray (0 :: List.range' 1 rest.length) :: k)) cs w) =
      .next (lone (b.at (a.put o.dst v) (.inRegion (o :: rest).toArray (List.range' 1 rest.length) :: k)) cs' w) := by
    apply step_lone_go
    rw [hgo, ← hfin]
    unfold recovered at hrec
    simp only [Frame.at] at htr ⊢
    cases hR : recoverD cs with
    | some p =>
      rw [hR] at hrec
      obtain ⟨rfl, rfl⟩ := Prod.mk.inj hrec
      simp [stepG.apply, hr, htr, hR]
    | none =>
      rw [hR] at hrec
      obtain ⟨rfl, rfl⟩ := Prod.mk.inj hrec
      simp [stepG.apply, hr, htr, hR]
  have hreg := step_region (P := P) (b := b) (a := a) (k := k) (cs := cs) (w := w) (ops := (o :: rest).toArray) (id := id)
  rw [hrange] at hreg
  refine ⟨e, a', cs', w', ?_, .of_steps (.one hreg) (.of_steps (.one hstep) harr)⟩
  cases e with
  | normal => exact wpS_of_wp hq
  | exit _ => exact hq
  | goto _ => exact hq
  | ret => exact hq
  | panic _ => exact hq
  | outgrown => exact hq

end Go.Proofs.Ytgdmcbjlfnjhjaa.Mm

namespace Go.Proofs.Ytgdmcbjlfnjhjaa
open Go.RowKit Wm Mm
set_option linter.unusedVariables false

end Go.Proofs.Ytgdmcbjlfnjhjaa
