/-
  ClientOnce, in plain terms: what a round leaves.
-/
import Derived.Test.YtckclacdmpcpbaaZh
namespace Go.Proofs.Ytckclacdmpcpbaa
open Go.RowKit Wm Mm Clt
set_option linter.unusedVariables false
set_option linter.unusedSimpArgs false

theorem sees_ask {c : CliP} {s n : Nat} {asked : CmdC} (h : Sees c s n asked) {b : Bool} (hb : (nextC c).2 = b) : Sees (nextC c).1 (if b = true then seenS c s else s) (if b = true then seenN c n else n) (if b = true then seenA c asked else asked) := by
  cases b with
  | false =>
    simp only [Bool.false_eq_true, if_false]
    rw [next_no hb]
    exact h
  | true =>
    simp only [if_true]
    exact sees_next h hb
theorem seenS_le {N : Nat} {c : CliP} (h : OkC N c) {s : Nat} (hs : s ≤ 50) (b : Bool) : (if b = true then seenS c s else s) ≤ 50 := by
  have := h.session
  unfold seenS
  cases b <;> simp only [Bool.false_eq_true, if_false, if_true]
  · exact hs
  · split <;> omega
theorem seenN_le {N : Nat} {c : CliP} (h : OkC N c) {n M : Nat} (hn : n ≤ M) (hM : N + 1 ≤ M) (b : Bool) : (if b = true then seenN c n else n) ≤ M := by
  have := h.number
  unfold seenN
  cases b <;> simp only [Bool.false_eq_true, if_false, if_true]
  · exact hn
  · split <;> omega
theorem ask_session {c : CliP} (h : (askC c).cl ≠ 0) : c.session ≠ 0 := by
  intro e
  apply h
  unfold askC
  split
  · simp [e]
  · rfl
theorem answer_last (c : CliP) (id e kind : Int) (ver : Nat) : (answerC c id e kind ver).last = c.last ∧ (answerC c id e kind ver).m = c.m := by
  unfold answerC
  split
  · split
    · split
      · split <;> exact ⟨rfl, rfl⟩
      · exact ⟨rfl, rfl⟩
    · split <;> exact ⟨rfl, rfl⟩
  · exact ⟨rfl, rfl⟩
theorem tick_last (c : CliP) : (tickC c).last = c.last ∧ (tickC c).m = c.m := by
  unfold tickC
  split
  · split <;> exact ⟨rfl, rfl⟩
  · exact ⟨rfl, rfl⟩
/-- the client behind a round -/
structure After (i : Nat) (c1 c2 c4 : CliP) (s n : Nat) (asked : CmdC) (bi : Bool) (acl p3 : Nat) (err : Int) : Prop where
  ok : OkC (4 * (i + 1)) (doneC (doneC c4))
  sees : Sees (doneC (doneC c4)) s n asked
  last : (doneC (doneC c4)).last = c2.last
  m : (doneC (doneC c4)).m = c2.m
  idle : c4.res = true → c4.want = none
  fresh : bi = true → acl ≠ 0 → p3 = 0 → err = 0 → c4.res = true
theorem after_round {i : Nat} {c1 c2 : CliP} {s n : Nat} {asked : CmdC} {bi : Bool} {acl p3 : Nat} {err kd : Int} {ver : Nat} {s0 n0 : Nat} {a0 : CmdC}
    (ho : OkC (4 * i + 1) c2) (hs : Sees c2 s n asked) (h1 : Sees c1 s0 n0 a0) (h2 : (nextC c1).1 = c2) (hb : (nextC c1).2 = bi) (ha : (askC c1).cl = acl) (hr : c2.res = false) (hv : ver ≤ 50) :
    After i c1 c2 (tickC (answerC c2 ((c2.last : Int) - (p3 : Int)) err kd ver)) s n asked bi acl p3 err := by
  obtain ⟨a1, a2⟩ := answer_last c2 ((c2.last : Int) - (p3 : Int)) err kd ver
  obtain ⟨b1, b2⟩ := tick_last (answerC c2 ((c2.last : Int) - (p3 : Int)) err kd ver)
  obtain ⟨t1, t2⟩ := tick_keeps (answerC c2 ((c2.last : Int) - (p3 : Int)) err kd ver)
  refine ⟨((ho.answer _ err kd hv).tick.mono (by omega)).done.done, sees_done (sees_done (sees_tick (sees_answer hs _ err kd ver))), by show (tickC _).last = _; rw [b1, a1], by show (tickC _).m = _; rw [b2, a2], fun h => ?_, fun e1 e2 e3 e4 => ?_⟩
  · rw [t1]
    rw [t2] at h
    exact answer_res _ err kd ver hr h
  · subst e3
    subst e4
    rw [t2]
    have hi : (nextC c1).2 = true := by rw [hb, e1]
    have := fresh_done hi h1.fl (ask_session (by rw [ha]; exact e2)) kd ver
    rw [h2] at this
    have e : (c2.last : Int) - ((0 : Nat) : Int) = (c2.last : Int) := by simp
    rw [e]
    exact this
end Go.Proofs.Ytckclacdmpcpbaa
