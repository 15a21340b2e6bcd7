/-
  Writing requests: the document's way; and both as one.
-/
import Derived.Test.YtcgfbmlmpcfbgaaRqp
namespace Go.Proofs.Ytcgfbmlmpcfbgaa
open Go.RowKit Wm Mm
set_option linter.unusedVariables false

theorem wire_putRequest (client number kind : Int) (key val : List UInt8) (iff time : Int) (w : World) :
    Calls Try.prog 5 #[vReq client number kind key val iff time] w fun e w' =>
      e = .returned (.tuple #[str (putReq client number kind key val iff time), .int .i64 (putReqE client number kind key val iff time)]) ∧ Below w.heap.size w w' := by
  unfold putReq putReqE
  by_cases hok : okReq client number kind key val iff time = true
  · rw [if_pos hok, if_pos hok]
    unfold okReq at hok
    simp only [Bool.and_eq_true] at hok
    obtain ⟨⟨⟨h1, h2⟩, h3⟩, h4⟩ := hok
    obtain ⟨a, rfl, _⟩ := inB_nat h1
    obtain ⟨b, rfl, _⟩ := inB_nat h2
    obtain ⟨c, rfl, _⟩ := inB_nat h3
    by_cases hz : (a : Int) = 0
    · rw [if_pos hz] at h4 ⊢
      obtain rfl : a = 0 := by omega
      simp only [cmdNone, Bool.and_eq_true, decide_eq_true_eq, beq_iff_eq] at h4
      obtain ⟨rfl, rfl, rfl, rfl⟩ := h4
      rw [List.append_nil]
      exact wire_putRequest_none b c w h2 h3
    · rw [if_neg hz] at h4 ⊢
      obtain ⟨hk1, _, _, hk4⟩ := isCommand_facts h4
      have hk5 := (inB_of hk1).1
      obtain ⟨i, rfl, _⟩ := inB_nat hk4
      obtain ⟨k, rfl⟩ : ∃ k : Nat, kind = k := ⟨kind.toNat, by omega⟩
      exact wire_putRequest_some a b k key val i c w hz h4 h1 h2 h3
  · rw [if_neg hok, if_neg hok]
    exact wire_putRequest_no client number kind key val iff time w (by simpa using hok)

theorem alloc_q {w : World} (o : Obj) : Below w.heap.size w (w.alloc o) := (Below.refl _ _).alloc (Nat.le_refl _) _

end Go.Proofs.Ytcgfbmlmpcfbgaa
