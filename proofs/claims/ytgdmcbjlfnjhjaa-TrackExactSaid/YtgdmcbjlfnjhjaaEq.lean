/-
  Entries: may one be? both ways; writing them, both ways. Entries as bytes, both ways.
-/
import Derived.Test.YtgdmcbjlfnjhjaaRqp
import Derived.Test.YtgdmcbjlfnjhjaaCx
import Derived.Test.YtgdmcbjlfnjhjaaWp
import Derived.Deep.DeepCutAuto
namespace Go.Proofs.Ytgdmcbjlfnjhjaa
open Go.RowKit Wm Mm
set_option linter.unusedVariables false

set_option maxHeartbeats 400000 in
theorem ref_in_any (n low high : Int) (w : World) :
    Calls Try.prog 92 #[.int .i64 n, .int .i64 low, .int .i64 high] w fun e w' => e = .returned (.bool (inB n low high)) ∧ w = w' := by
  by_cases h1 : low ≤ n
  · have t1 : decide (low ≤ n) = true := decide_eq_true h1
    have e1 : inB n low high = decide (n ≤ high) := by unfold inB; rw [t1]; rfl
    rw [e1]
    clear h1 e1
    go_enter Try.func92, Try.ntmps92
    go_wp2
    go_ret
    exact ⟨rfl, rfl⟩
  · have t1 : decide (low ≤ n) = false := decide_eq_false h1
    have e1 : inB n low high = false := by unfold inB; rw [t1]; rfl
    rw [e1]
    clear h1 e1
    go_enter Try.func92, Try.ntmps92
    go_wp2
    go_ret
    exact ⟨rfl, rfl⟩

/-- may an entry be? -/
def isEntry (index term kind : Int) (data : List UInt8) : Bool :=
  inB index 1 1099511627775 && (inB term 1 1099511627775 && (inB kind 0 2 && (decide (data.length ≤ 256) && (!(decide (kind = 0)) || data == []))))
abbrev vEnt (index term kind : Int) (data : List UInt8) : Value := .agg #[.int .i64 index, .int .i64 term, .int .i64 kind, str data]

set_option maxHeartbeats 2000000 in
theorem ref_isEntry (index term kind : Int) (data : List UInt8) (w : World) :
    Calls Try.prog 73 #[vEnt index term kind data] w fun e w' => e = .returned (.bool (isEntry index term kind data)) ∧ w.alloc (.cells #[.int .i64 index, .int .i64 term, .int .i64 kind, str data] 30) = w' := by
  obtain ⟨r, hr⟩ := hide (isEntry index term kind data)
  rw [hr.out]
  go_enter Try.func73, Try.ntmps73
  go_wp2_with (go_at_call 92; refine (ref_in_any _ _ _ _).mono ?_; rintro e w' ⟨rfl, rfl⟩)
  all_goals
    go_ret
    refine ⟨congrArg (fun b => Ending.returned (.bool b)) ?_, by first | rfl | (simp_all; done)⟩
    rw [← hr.out]
    clear hr
    first
      | (simp_all [isEntry]; done)
      | (simp_all [isEntry, inB]; done)
      | (simp_all [isEntry, inB]; omega)

def putEnt (index term kind : Nat) (data : List UInt8) : List UInt8 := putNum index ++ (putNum term ++ (putNum kind ++ putText data))

end Go.Proofs.Ytgdmcbjlfnjhjaa

namespace Go.Proofs.Ytgdmcbjlfnjhjaa
open Go.RowKit Wm Mm
set_option linter.unusedVariables false

theorem isEntry_facts {index term kind : Int} {data : List UInt8} (h : isEntry index term kind data = true) :
    ∃ a b k : Nat, index = a ∧ term = b ∧ kind = k ∧ a < 1099511627776 ∧ b < 1099511627776 ∧ k < 3 ∧ data.length ≤ 256 := by
  simp only [isEntry, Bool.and_eq_true, decide_eq_true_eq] at h
  obtain ⟨h1, h2, h3, h4, _⟩ := h
  have g1 := inB_of h1
  have g2 := inB_of h2
  have g3 := inB_of h3
  exact ⟨index.toNat, term.toNat, kind.toNat, by omega, by omega, by omega, by omega, by omega, by omega, h4⟩
def putEntB (index term kind : Int) (data : List UInt8) : List UInt8 := if isEntry index term kind data = true then putEnt index.toNat term.toNat kind.toNat data else []
def putEntE (index term kind : Int) (data : List UInt8) : Int := if isEntry index term kind data = true then 0 else 6
theorem putEnt_len (a b k : Nat) (data : List UInt8) (h1 : a < 1099511627776) (h2 : b < 1099511627776) (h3 : k < 3) (h4 : data.length ≤ 256) : (putEnt a b k data).length ≤ 292 := by
  have g1 := putNum_len10 (n := a) (by omega)
  have g2 := putNum_len10 (n := b) (by omega)
  have g3 := putNum_len10 (n := k) (by omega)
  have g4 := putText_len data (by omega)
  simp [putEnt]; omega

end Go.Proofs.Ytgdmcbjlfnjhjaa
