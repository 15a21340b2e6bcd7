/-
  Writing requests, both ways.
-/
import Derived.Test.YtjlhlmnoomiblaaZ06
import Derived.Test.YtjlhlmnoomiblaaZ07
import Derived.Deep.QuietTactic
import Derived.BigQuiet
namespace Go.Proofs.Ytjlhlmnoomiblaa
open Go.RowKit Wm Mm
set_option linter.unusedVariables false

def putCmd (kind : Nat) (key val : List UInt8) (iff : Nat) : List UInt8 := putNum kind ++ (putText key ++ (putText val ++ putNum iff))
theorem putText_len (s : List UInt8) (h : s.length < 9223372036854775808) : (putText s).length ≤ 9 + s.length := by
  have := putNum_len10 h
  simp [putText]; omega


theorem four_cells {w : World} {b : Nat} {x0 x1 x2 x3 : Value} {t : TypeId} (h : w.heap[b]? = some (.cells #[x0, x1, x2, x3] t (0, 0))) :
    w.cell? ⟨b, 0, none⟩ = some x0 ∧ w.cell? ⟨b, 1, none⟩ = some x1 ∧ w.cell? ⟨b, 2, none⟩ = some x2 ∧ w.cell? ⟨b, 3, none⟩ = some x3 := by
  simp [World.cell?, h]

/-- a request as a value -/
abbrev vReq (client number : Int) (kind : Int) (key val : List UInt8) (iff time : Int) : Value := .agg #[.int .i64 client, .int .i64 number, .int .i64 kind, str key, str val, .int .i64 iff, .int .i64 time]
def cmdNone (kind : Int) (key val : List UInt8) (iff : Int) : Bool := decide (kind = 0) && (key == [] && (val == [] && decide (iff = 0)))
def okReq (client number kind : Int) (key val : List UInt8) (iff time : Int) : Bool :=
  inB client 0 1099511627775 && inB number 0 1099511627775 && inB time 0 1099511627775 && (if client = 0 then cmdNone kind key val iff else isCommand kind key val iff)
def putReq (client number kind : Int) (key val : List UInt8) (iff time : Int) : List UInt8 :=
  if okReq client number kind key val iff time = true then putNum client.toNat ++ (putNum number.toNat ++ (putNum time.toNat ++ (if client = 0 then [] else putCmd kind.toNat key val iff.toNat))) else []
def putReqE (client number kind : Int) (key val : List UInt8) (iff time : Int) : Int := if okReq client number kind key val iff time = true then 0 else 5

theorem inB_nat {n h : Int} (H : inB n 0 h = true) : ∃ a : Nat, n = a ∧ (a : Int) ≤ h := by
  simp [inB] at H
  exact ⟨n.toNat, by omega, by omega⟩
theorem inB_of {n l h : Int} (H : inB n l h = true) : l ≤ n ∧ n ≤ h := by simpa [inB] using H
theorem isCommand_facts {kind : Int} {key val : List UInt8} {iff : Int} (h : isCommand kind key val iff = true) :
    inB kind 1 6 = true ∧ key.length ≤ 16 ∧ val.length ≤ 64 ∧ inB iff 0 1099511627775 = true := by
  unfold isCommand at h
  simp only [Bool.and_eq_true, decide_eq_true_eq] at h
  exact ⟨h.1.1.1.1, h.1.1.1.2, h.1.1.2, h.1.2⟩

/-- the writer's bytes, as a text -/
theorem writer_str {w : World} {v : Value} {base : Nat} {xs : List UInt8} (ho : w.ownsRow base 5 1 v xs.length (xs.map bval)) :
    (convert 35 9 v).run Try.prog w = .ok (str xs) w :=
  run_toStr_own w 35 9 5 base _ v xs Try.underlying35 Try.underlying5 Try.underlying9 ho

theorem seven_cells {w : World} {b : Nat} {x0 x1 x2 x3 x4 x5 x6 : Value} {t : TypeId} (h : w.heap[b]? = some (.cells #[x0, x1, x2, x3, x4, x5, x6] t (0, 0))) :
    w.cell? ⟨b, 0, none⟩ = some x0 ∧ w.cell? ⟨b, 1, none⟩ = some x1 ∧ w.cell? ⟨b, 2, none⟩ = some x2 ∧ w.cell? ⟨b, 3, none⟩ = some x3 ∧ w.cell? ⟨b, 4, none⟩ = some x4 ∧ w.cell? ⟨b, 5, none⟩ = some x5 ∧ w.cell? ⟨b, 6, none⟩ = some x6 := by
  simp [World.cell?, h]

end Go.Proofs.Ytjlhlmnoomiblaa
