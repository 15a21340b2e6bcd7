/-
  Messages: may one be (package wire): all kinds.
-/
import Derived.Test.YtkcllpbbjlbfaaaMsf
namespace Go.Proofs.Ytkcllpbbjlbfaaa
open Go.RowKit Wm Mm Lg
set_option linter.unusedVariables false
set_option linter.unusedSimpArgs false

theorem sameConf_comm (c d : Conf) : sameConf c d = sameConf d c := by
  unfold sameConf
  congr 1
  · simp only [decide_eq_decide]; exact eq_comm
  congr 1
  · simp only [decide_eq_decide]; exact eq_comm
  · simp only [decide_eq_decide]; exact eq_comm
theorem sameConf_self (c : Conf) : sameConf c c = true := by simp [sameConf]
theorem int_beq_comm (a b : Int) : (a == b) = (b == a) := by rw [Bool.eq_iff_iff]; simp; exact eq_comm
theorem none_len (l : List EntP) : ((([] : List EntP).length : Int) == (l.length : Int)) = decide (l.length = 0) := by
  cases l with
  | nil => rfl
  | cons e l =>
    have h1 : ((([] : List EntP).length : Int) == ((e :: l).length : Int)) = false := beq_eq_false_iff_ne.2 (by simp; omega)
    rw [h1]
    simp
theorem false_beq (b : Bool) : (false == b) = !b := by cases b <;> rfl
theorem none_snap (m : Msg) : sameSnapB 0 0 noConf [] m.si m.st m.sc m.sd = noneS m := by
  unfold sameSnapB noneS
  rw [int_beq_comm 0 m.si, int_beq_comm 0 m.st, sameConf_comm noConf m.sc]
  have : (([] : List UInt8) == m.sd) = (m.sd == []) := by cases m.sd <;> rfl
  rw [this]
theorem same_snap (m : Msg) : sameSnapB m.si m.st m.sc m.sd m.si m.st m.sc m.sd = true := by simp [sameSnapB, sameConf_self]
abbrev uAsk (m : Msg) : Msg := ⟨m.kind, m.frm, m.dst, m.term, m.index, m.logTerm, 0, [], 0, 0, noConf, [], false, 0, 0⟩
abbrev uRep (m : Msg) : Msg := ⟨m.kind, m.frm, m.dst, m.term, 0, 0, 0, [], 0, 0, noConf, [], m.rej, 0, 0⟩
abbrev uApp (m : Msg) : Msg := ⟨m.kind, m.frm, m.dst, m.term, m.index, m.logTerm, m.commit, m.ents, 0, 0, noConf, [], false, 0, m.ctx⟩
abbrev uBack (m : Msg) : Msg := ⟨m.kind, m.frm, m.dst, m.term, m.index, 0, 0, [], 0, 0, noConf, [], m.rej, m.hint, m.ctx⟩
abbrev uInst (m : Msg) : Msg := ⟨m.kind, m.frm, m.dst, m.term, 0, 0, 0, [], m.si, m.st, m.sc, m.sd, false, 0, m.ctx⟩
abbrev uNone (m : Msg) : Msg := ⟨m.kind, m.frm, m.dst, m.term, 0, 0, 0, [], 0, 0, noConf, [], false, 0, 0⟩
theorem kb {k n : Int} (h : k = n) : (k == n) = true := by rw [h]; simp
theorem kn {k n : Int} (h : k ≠ n) : (k == n) = false := beq_eq_false_iff_ne.2 h
theorem plain_ask {m : Msg} (h : m.kind = 1 ∨ m.kind = 3) : plainU (uAsk m) m = plainM m := by
  unfold plainU plainM
  rw [none_len, none_snap, false_beq, int_beq_comm 0 m.commit, int_beq_comm 0 m.hint, int_beq_comm 0 m.ctx]
  rcases h with h | h <;> simp [askB, repB, h]
theorem plain_rep {m : Msg} (h : m.kind = 2 ∨ m.kind = 4) : plainU (uRep m) m = plainM m := by
  unfold plainU plainM
  rw [none_len, none_snap, int_beq_comm 0 m.index, int_beq_comm 0 m.logTerm, int_beq_comm 0 m.commit, int_beq_comm 0 m.hint, int_beq_comm 0 m.ctx]
  rcases h with h | h <;> simp [askB, repB, h]
theorem plain_app {m : Msg} (h : m.kind = 5) : plainU (uApp m) m = plainM m := by
  unfold plainU plainM
  rw [none_snap, false_beq, int_beq_comm 0 m.hint]
  simp [askB, repB, h]
theorem plain_back {m : Msg} (h : m.kind = 6) : plainU (uBack m) m = plainM m := by
  unfold plainU plainM
  rw [none_len, none_snap, int_beq_comm 0 m.logTerm, int_beq_comm 0 m.commit]
  simp [askB, repB, h]
theorem plain_inst {m : Msg} (h : m.kind = 7) : plainU (uInst m) m = plainM m := by
  unfold plainU plainM
  rw [none_len, same_snap, false_beq, int_beq_comm 0 m.index, int_beq_comm 0 m.logTerm, int_beq_comm 0 m.commit, int_beq_comm 0 m.hint]
  simp [askB, repB, h]
theorem plain_none {m : Msg} (h : ¬ (1 ≤ m.kind ∧ m.kind ≤ 7)) : plainU (uNone m) m = plainM m := by
  have k1 := kn (k := m.kind) (n := 1) (by omega)
  have k2 := kn (k := m.kind) (n := 2) (by omega)
  have k3 := kn (k := m.kind) (n := 3) (by omega)
  have k4 := kn (k := m.kind) (n := 4) (by omega)
  have k5 := kn (k := m.kind) (n := 5) (by omega)
  have k6 := kn (k := m.kind) (n := 6) (by omega)
  have k7 := kn (k := m.kind) (n := 7) (by omega)
  unfold plainU plainM
  rw [none_len, none_snap, false_beq, int_beq_comm 0 m.index, int_beq_comm 0 m.logTerm, int_beq_comm 0 m.commit, int_beq_comm 0 m.hint, int_beq_comm 0 m.ctx]
  simp [askB, repB, k1, k2, k3, k4, k5, k6, k7]

theorem wire_isMessage (m : Msg) (ev x y z : Value) (F : Nat → Prop) (w : World) (hE : Ents F w ev m.ents) (hc : Config3 w x y z m.sc) :
    Calls Try.prog 11 #[vMsg m ev x y z] w fun e w' => e = .returned (.bool (isMsg m)) ∧ Below w.heap.size w w' := by
  have h0 : Config3 w (.slice none 0 0) (.slice none 0 0) (.slice none 0 0) noConf := (Config3F.nil 0 w).conf
  have hsl : IsSl ev ∧ IsSl x ∧ IsSl y ∧ IsSl z := by
    obtain ⟨a, c, h, _⟩ := hE.slice
    obtain ⟨a1, c1, h1, _⟩ := len_of_Ints hc.v
    obtain ⟨a2, c2, h2, _⟩ := len_of_Ints hc.n
    obtain ⟨a3, c3, h3, _⟩ := len_of_Ints hc.l
    exact ⟨⟨a, _, c, h⟩, ⟨a1, _, c1, h1⟩, ⟨a2, _, c2, h2⟩, ⟨a3, _, c3, h3⟩⟩
  by_cases k1 : m.kind = 1 ∨ m.kind = 3
  · exact isMessage_gen m (uAsk m) ev x y z _ _ _ _ F w hE hc h0 ⟨none, 0, rfl⟩ (fun w1 => used_ask m ev x y z w1 hsl k1) (plain_ask k1)
  by_cases k2 : m.kind = 2 ∨ m.kind = 4
  · exact isMessage_gen m (uRep m) ev x y z _ _ _ _ F w hE hc h0 ⟨none, 0, rfl⟩ (fun w1 => used_rep m ev x y z w1 hsl k2) (plain_rep k2)
  by_cases k5 : m.kind = 5
  · obtain ⟨a, c, h, _⟩ := hE.slice
    exact isMessage_gen m (uApp m) ev x y z _ _ _ _ F w hE hc h0 ⟨a, c, h⟩ (fun w1 => used_app m ev x y z w1 hsl k5) (plain_app k5)
  by_cases k6 : m.kind = 6
  · exact isMessage_gen m (uBack m) ev x y z _ _ _ _ F w hE hc h0 ⟨none, 0, rfl⟩ (fun w1 => used_back m ev x y z w1 hsl k6) (plain_back k6)
  by_cases k7 : m.kind = 7
  · exact isMessage_gen m (uInst m) ev x y z _ _ _ _ F w hE hc hc ⟨none, 0, rfl⟩ (fun w1 => used_inst m ev x y z w1 hsl k7) (plain_inst k7)
  · exact isMessage_gen m (uNone m) ev x y z _ _ _ _ F w hE hc h0 ⟨none, 0, rfl⟩ (fun w1 => used_none m ev x y z w1 hsl (by omega)) (plain_none (by omega))
end Go.Proofs.Ytkcllpbbjlbfaaa
