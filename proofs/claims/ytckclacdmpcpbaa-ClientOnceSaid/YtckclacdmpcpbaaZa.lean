/-
  A client in plain terms: what it wants, asks and is answered; what the law on it checks. No program in sight.
-/
import Derived.Test.YtckclacdmpcpbaaFa
namespace Go.Proofs.Ytckclacdmpcpbaa.Clt
open Mm
set_option linter.unusedVariables false
set_option linter.unusedSimpArgs false

structure CmdC where
  kind : Int
  key : List UInt8
  val : List UInt8
  iff : Int
deriving DecidableEq
structure CliP where
  m : Nat
  pos : Nat
  waits : Bool
  waited : Nat
  last : Nat
  first : Nat
  session : Nat
  number : Nat
  want : Option CmdC
  res : Bool
def newC (m : Nat) : CliP := ⟨m, 0, false, 0, 0, 1, 0, 0, none, false⟩
def wantC (c : CliP) (x : CmdC) : CliP × Int := if c.want.isSome || c.res then (c, 21) else ({ c with want := some x, first := c.last + 1, waits := false }, 0)
def nextC (c : CliP) : CliP × Bool := if c.want.isNone || c.waits then (c, false) else ({ c with last := c.last + 1, waits := true, waited := 0 }, true)
def stepC (c : CliP) : CliP := { c with waits := false, pos := (c.pos + 1) % c.m }
def tickC (c : CliP) : CliP := if c.waits then (if 2 ≤ c.waited + 1 then stepC { c with waited := c.waited + 1 } else { c with waited := c.waited + 1 }) else c
def hearsC (c : CliP) (id : Int) : Bool := c.want.isSome && decide ((c.first : Int) ≤ id) && decide (id ≤ c.last)
def answerC (c : CliP) (id e kind : Int) (ver : Nat) : CliP :=
  if hearsC c id then
    (if e = 0 then
      (if c.session = 0 then (if kind = 1 then { c with waits := false, session := ver, number := 0, first := c.last + 1 } else { c with waits := false })
       else { c with waits := false, number := c.number + 1, want := none, res := true })
     else (if id = c.last ∧ c.waits = true then stepC c else c))
  else c
def doneC (c : CliP) : CliP := { c with res := false }

/-- bounds -/
structure OkC (n : Nat) (c : CliP) : Prop where
  m1 : 1 ≤ c.m
  m9 : c.m ≤ 9
  pos : c.pos < c.m
  waited : c.waited ≤ n
  last : c.last ≤ n
  first : c.first ≤ n + 1
  number : c.number ≤ n
  session : c.session ≤ 50
theorem OkC.mono {n k : Nat} {c : CliP} (h : OkC n c) (hk : n ≤ k) : OkC k c := by
  obtain ⟨a1, a2, a3, a4, a5, a6, a7, a8⟩ := h
  exact ⟨a1, a2, a3, by omega, by omega, by omega, by omega, a8⟩
theorem OkC.new {m : Nat} (h1 : 1 ≤ m) (h9 : m ≤ 9) : OkC 0 (newC m) := by
  unfold newC
  exact ⟨h1, h9, by show 0 < m; omega, Nat.le_refl _, Nat.le_refl _, Nat.le_refl _, Nat.le_refl _, by show 0 ≤ 50; omega⟩
theorem OkC.want {n : Nat} {c : CliP} (h : OkC n c) (x : CmdC) : OkC n (wantC c x).1 := by
  obtain ⟨a1, a2, a3, a4, a5, a6, a7, a8⟩ := h
  unfold wantC
  split
  · exact ⟨a1, a2, a3, a4, a5, a6, a7, a8⟩
  · exact ⟨a1, a2, a3, a4, a5, by show c.last + 1 ≤ n + 1; omega, a7, a8⟩
theorem OkC.next {n : Nat} {c : CliP} (h : OkC n c) : OkC (n + 1) (nextC c).1 := by
  have h' := h.mono (Nat.le_succ n)
  obtain ⟨a1, a2, a3, a4, a5, a6, a7, a8⟩ := h
  unfold nextC
  split
  · exact h'
  · exact ⟨a1, a2, a3, Nat.zero_le _, by show c.last + 1 ≤ n + 1; omega, by show c.first ≤ n + 1 + 1; omega, by show c.number ≤ n + 1; omega, a8⟩
theorem OkC.step {n : Nat} {c : CliP} (h : OkC n c) : OkC n (stepC c) := by
  obtain ⟨a1, a2, a3, a4, a5, a6, a7, a8⟩ := h
  exact ⟨a1, a2, Nat.mod_lt _ (by omega), a4, a5, a6, a7, a8⟩
theorem OkC.tick {n : Nat} {c : CliP} (h : OkC n c) : OkC (n + 1) (tickC c) := by
  have h' := h.mono (Nat.le_succ n)
  have h2 : OkC (n + 1) { c with waited := c.waited + 1 } := by
    obtain ⟨a1, a2, a3, a4, a5, a6, a7, a8⟩ := h
    exact ⟨a1, a2, a3, by show c.waited + 1 ≤ n + 1; omega, by show c.last ≤ n + 1; omega, by show c.first ≤ n + 1 + 1; omega, by show c.number ≤ n + 1; omega, a8⟩
  unfold tickC
  split
  · split
    · exact h2.step
    · exact h2
  · exact h'
theorem OkC.answer {n : Nat} {c : CliP} (h : OkC n c) (id e kind : Int) {ver : Nat} (hv : ver ≤ 50) : OkC (n + 1) (answerC c id e kind ver) := by
  have h' := h.mono (Nat.le_succ n)
  obtain ⟨a1, a2, a3, a4, a5, a6, a7, a8⟩ := h'
  unfold answerC
  split
  · split
    · split
      · split
        · exact ⟨a1, a2, a3, a4, a5, by show c.last + 1 ≤ n + 1 + 1; omega, Nat.zero_le _, hv⟩
        · exact ⟨a1, a2, a3, a4, a5, a6, a7, a8⟩
      · exact ⟨a1, a2, a3, a4, a5, a6, by show c.number + 1 ≤ n + 1; have := h.number; omega, a8⟩
    · split
      · exact OkC.step ⟨a1, a2, a3, a4, a5, a6, a7, a8⟩
      · exact ⟨a1, a2, a3, a4, a5, a6, a7, a8⟩
  · exact ⟨a1, a2, a3, a4, a5, a6, a7, a8⟩
theorem OkC.done {n : Nat} {c : CliP} (h : OkC n c) : OkC n (doneC c) := by
  obtain ⟨a1, a2, a3, a4, a5, a6, a7, a8⟩ := h
  exact ⟨a1, a2, a3, a4, a5, a6, a7, a8⟩

/-- what the law has seen: the session and the number that were asked last, and with which command -/
structure Sees (c : CliP) (s n : Nat) (asked : CmdC) : Prop where
  fl : c.first ≤ c.last + 1
  rw' : c.res = true → c.want = none
  s0 : c.session = 0 → c.number = 0 ∧ s = 0
  z : s = 0 → c.number = 0 ∧ (c.session ≠ 0 → c.first = c.last + 1)
  nz : s ≠ 0 → s = c.session ∧ ((n = c.number ∧ (c.want = none ∨ c.first = c.last + 1)) ∨ (n = c.number + 1 ∧ c.want = some asked))
theorem sees_new (m : Nat) (asked : CmdC) : Sees (newC m) 0 0 asked :=
  ⟨Nat.le_refl _, fun h => (by cases h), fun _ => ⟨rfl, rfl⟩, fun _ => ⟨rfl, fun h => absurd rfl h⟩, fun h => absurd rfl h⟩
theorem sees_want {c : CliP} {s n : Nat} {asked : CmdC} (h : Sees c s n asked) (x : CmdC) : Sees (wantC c x).1 s n asked := by
  unfold wantC
  split
  · exact h
  · next hn =>
    have hw : c.want = none := by
      cases hq : c.want with
      | none => rfl
      | some q => rw [hq] at hn; simp at hn
    have hr : c.res = false := by
      cases hq : c.res with
      | false => rfl
      | true => rw [hq] at hn; simp at hn
    refine ⟨Nat.le_refl _, fun e => ?_, h.s0, fun e => ⟨(h.z e).1, fun _ => rfl⟩, fun e => ?_⟩
    · have e' : c.res = true := e
      rw [hr] at e'; cases e'
    · obtain ⟨h1, h2⟩ := h.nz e
      refine ⟨h1, Or.inl ⟨?_, Or.inr rfl⟩⟩
      rcases h2 with ⟨h3, _⟩ | ⟨_, h4⟩
      · exact h3
      · rw [hw] at h4; cases h4
/-- what is asked, and what the law has seen behind it -/
def seenS (c : CliP) (s : Nat) : Nat := if c.session = 0 then s else c.session
def seenN (c : CliP) (n : Nat) : Nat := if c.session = 0 then n else c.number + 1
def seenA (c : CliP) (asked : CmdC) : CmdC := if c.session = 0 then asked else c.want.getD asked
theorem sees_next {c : CliP} {s n : Nat} {asked : CmdC} (h : Sees c s n asked) (hi : (nextC c).2 = true) : Sees (nextC c).1 (seenS c s) (seenN c n) (seenA c asked) := by
  unfold nextC at hi ⊢
  split at hi
  · cases hi
  · next hn =>
    rw [if_neg hn]
    obtain ⟨x, hx⟩ : ∃ x, c.want = some x := by
      cases hq : c.want with
      | none => rw [hq] at hn; simp at hn
      | some q => exact ⟨q, rfl⟩
    have hfl := h.fl
    unfold seenS seenN seenA
    by_cases hs : c.session = 0
    · rw [if_pos hs, if_pos hs, if_pos hs]
      have h0 := h.s0 hs
      exact ⟨by show c.first ≤ c.last + 1 + 1; omega, h.rw', h.s0, fun _ => ⟨h0.1, fun e => absurd hs e⟩, fun e => absurd h0.2 e⟩
    · rw [if_neg hs, if_neg hs, if_neg hs]
      exact ⟨by show c.first ≤ c.last + 1 + 1; omega, h.rw', fun e => absurd e hs, fun e => absurd e hs, fun _ => ⟨rfl, Or.inr ⟨rfl, by rw [hx]; rfl⟩⟩⟩
theorem sees_same {c c' : CliP} {s n : Nat} {asked : CmdC} (h : Sees c s n asked) (h1 : c'.first = c.first) (h2 : c'.last = c.last) (h3 : c'.res = c.res) (h4 : c'.want = c.want) (h5 : c'.session = c.session) (h6 : c'.number = c.number) : Sees c' s n asked := by
  refine ⟨?_, ?_, ?_, ?_, ?_⟩
  · rw [h1, h2]; exact h.fl
  · rw [h3, h4]; exact h.rw'
  · rw [h5, h6]; exact h.s0
  · rw [h5, h6, h1, h2]; exact h.z
  · rw [h5, h6, h1, h2, h4]; exact h.nz
theorem sees_step {c : CliP} {s n : Nat} {asked : CmdC} (h : Sees c s n asked) : Sees (stepC c) s n asked := sees_same h rfl rfl rfl rfl rfl rfl
theorem sees_tick {c : CliP} {s n : Nat} {asked : CmdC} (h : Sees c s n asked) : Sees (tickC c) s n asked := by
  unfold tickC
  split
  · split
    · exact sees_same h rfl rfl rfl rfl rfl rfl
    · exact sees_same h rfl rfl rfl rfl rfl rfl
  · exact h
theorem hears_parts {c : CliP} {id : Int} (h : hearsC c id = true) : (∃ x, c.want = some x) ∧ (c.first : Int) ≤ id ∧ id ≤ c.last := by
  unfold hearsC at h
  simp only [Bool.and_eq_true, decide_eq_true_eq, Option.isSome_iff_exists] at h
  exact ⟨h.1.1, h.1.2, h.2⟩
theorem sees_answer {c : CliP} {s n : Nat} {asked : CmdC} (h : Sees c s n asked) (id e kind : Int) (ver : Nat) : Sees (answerC c id e kind ver) s n asked := by
  unfold answerC
  split
  · next hh =>
    obtain ⟨⟨x, hx⟩, h1, h2⟩ := hears_parts hh
    split
    · split
      · next hs =>
        have h0 := h.s0 hs
        split
        · exact ⟨Nat.le_refl _, h.rw', fun _ => ⟨rfl, h0.2⟩, fun _ => ⟨rfl, fun _ => rfl⟩, fun e => absurd h0.2 e⟩
        · exact sees_same h rfl rfl rfl rfl rfl rfl
      · next hs =>
        have hsz : s ≠ 0 := fun e => by have := (h.z e).2 hs; omega
        obtain ⟨h3, h4⟩ := h.nz hsz
        refine ⟨h.fl, fun _ => rfl, fun e => absurd e hs, fun e => absurd e hsz, fun _ => ⟨h3, Or.inl ⟨?_, Or.inl rfl⟩⟩⟩
        rcases h4 with ⟨_, h5 | h5⟩ | ⟨h5, _⟩
        · rw [hx] at h5; cases h5
        · omega
        · exact h5
    · split
      · exact sees_step h
      · exact h
  · exact h
theorem sees_done {c : CliP} {s n : Nat} {asked : CmdC} (h : Sees c s n asked) : Sees (doneC c) s n asked :=
  ⟨h.fl, fun e => (by cases e), h.s0, h.z, h.nz⟩
/-- asked twice at once: nothing -/
theorem next_twice (c : CliP) : nextC (nextC c).1 = ((nextC c).1, false) := by
  unfold nextC
  split
  · next h => simp only []
  · simp
theorem next_is (c : CliP) : (nextC c).2 = !(c.waits || !c.want.isSome) := by
  unfold nextC
  cases c.want <;> cases c.waits <;> rfl
theorem want_is (c : CliP) (x : CmdC) (hr : c.res = false) : (wantC c x).2 = (if c.want.isSome then 21 else 0) := by
  unfold wantC
  rw [hr]
  cases c.want <;> rfl
/-- an answer to what was asked last is the result -/
theorem fresh_done {c : CliP} (hi : (nextC c).2 = true) (hf : c.first ≤ c.last + 1) (hs : c.session ≠ 0) (kind : Int) (ver : Nat) : (answerC (nextC c).1 ((nextC c).1.last : Int) 0 kind ver).res = true := by
  unfold nextC at hi ⊢
  split at hi
  · cases hi
  · next hn =>
    rw [if_neg hn]
    obtain ⟨x, hx⟩ : ∃ x, c.want = some x := by
      cases hq : c.want with
      | none => rw [hq] at hn; simp at hn
      | some q => exact ⟨q, rfl⟩
    unfold answerC hearsC
    have h1 : decide (((c.first : Nat) : Int) ≤ ((c.last + 1 : Nat) : Int)) = true := decide_eq_true (by omega)
    simp only [hx, Option.isSome_some, h1, Bool.true_and, decide_eq_true_eq]
    rw [if_pos (Int.le_refl _), if_pos trivial, if_neg hs]
theorem answer_res {c : CliP} (id e kind : Int) (ver : Nat) (hr : c.res = false) (h : (answerC c id e kind ver).res = true) : (answerC c id e kind ver).want = none := by
  unfold answerC at h ⊢
  split at h
  · next hh =>
    rw [if_pos hh]
    split at h
    · next he =>
      rw [if_pos he]
      split at h
      · next hs =>
        rw [if_pos hs]
        split at h <;> (rw [hr] at h; cases h)
      · next hs => rw [if_neg hs]
    · next he =>
      split at h
      · have h' : c.res = true := h
        rw [hr] at h'; cases h'
      · rw [hr] at h; cases h
  · rw [hr] at h; cases h
theorem tick_keeps (c : CliP) : (tickC c).want = c.want ∧ (tickC c).res = c.res := by
  unfold tickC
  split
  · split <;> exact ⟨rfl, rfl⟩
  · exact ⟨rfl, rfl⟩
theorem want_res (c : CliP) (x : CmdC) : (wantC c x).1.res = c.res := by
  unfold wantC
  split <;> rfl
theorem next_res (c : CliP) : (nextC c).1.res = c.res := by
  unfold nextC
  split <;> rfl
end Go.Proofs.Ytckclacdmpcpbaa.Clt
