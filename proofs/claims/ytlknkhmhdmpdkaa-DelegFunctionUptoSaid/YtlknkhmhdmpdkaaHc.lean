/-
  DelegFunction: what is given, as rows; the law's small walks.
-/
import Derived.Test.YtlknkhmhdmpdkaaDk
import Derived.Test.YtlknkhmhdmpdkaaHb
import Derived.Test.YtlknkhmhdmpdkaaQc
namespace Go.Proofs.Ytlknkhmhdmpdkaa
open Go.RowKit Wm Mm Dg
set_option linter.unusedVariables false
set_option linter.unusedSimpArgs false

structure GivenP where
  frm : List UInt8
  upto : List UInt8
  host : Int
deriving DecidableEq
abbrev rowG (g : GivenP) : List Value := [str g.frm, str g.upto, .int .i64 g.host]
abbrev Gvns (F : Nat → Prop) (w : World) (v : Value) (l : List GivenP) : Prop := Sl 3 (Plain rowG) F w v l
theorem info_gvn : (Try.prog.info? 46).map (fun i => (i.zero, i.size, i.bytes)) = some (some (.agg #[.string ByteArray.empty, .string ByteArray.empty, .int .i64 0]), 3, 40) := by kernel_rfl
theorem rowG_len (b : GivenP) : (rowG b).length = 3 := rfl
theorem rowG_one (b : GivenP) : ∀ u ∈ rowG b, u.oneCell' = true := by intro u hu; simp at hu; rcases hu with rfl | rfl | rfl <;> rfl
abbrev OwnG (S : Nat) (w : World) (v : Value) (l : List GivenP) : Prop := w.ownsRow S 46 3 v l.length (l.flatMap rowG)
theorem OwnG.gvns {S : Nat} {w : World} {v : Value} {l : List GivenP} (h : OwnG S w v l) : Gvns (fun k => S ≤ k) w v l := Sl.own rowG rowG_len h (fun _ _ => rfl) (fun _ _ h _ => h)
/-- two rows of one's own of two types of elements lie in two blocks -/
theorem own_ne {w : World} {b1 b2 : Nat} {e1 e2 : TypeId} {s1 s2 n1 n2 : Nat} {v1 v2 : Value} {x1 x2 : List Value} (h1 : w.ownsRow b1 e1 s1 v1 n1 x1) (h2 : w.ownsRow b2 e2 s2 v2 n2 x2) (hne : e1 ≠ e2) : v1.ownBlock = none ∨ v1.ownBlock ≠ v2.ownBlock := by
  rcases h1.2 with ⟨rfl, _⟩ | ⟨g1, c1, k1, rfl, _, hg1, _⟩
  · exact Or.inl rfl
  · rcases h2.2 with ⟨rfl, _⟩ | ⟨g2, c2, k2, rfl, _, hg2, _⟩
    · exact Or.inr (by simp [Value.ownBlock])
    · refine Or.inr (fun e => ?_)
      have e' : g1 = g2 := by simpa [Value.ownBlock] using e
      subst e'
      rw [hg1] at hg2
      injection hg2 with h
      injection h with _ h3 _
      exact hne h3
theorem own_three {w : World} {S n g cap : Nat} {l : List GivenP} (h : w.ownsRow S 46 3 (.slice (some ⟨g, 0, none⟩) n cap) n (l.flatMap rowG)) {k : Nat} (hk : k < l.length) :
    w.cell? ⟨g, k * 3, none⟩ = some (str l[k].frm) ∧ w.cell? ⟨g, k * 3 + 1, none⟩ = some (str l[k].upto) ∧ w.cell? ⟨g, k * 3 + 2, none⟩ = some (.int .i64 l[k].host) := by
  have hg : ∀ (l : List GivenP) (k : Nat) (hk : k < l.length), (l.flatMap rowG)[k * 3]? = some (str l[k].frm) ∧ (l.flatMap rowG)[k * 3 + 1]? = some (str l[k].upto) ∧ (l.flatMap rowG)[k * 3 + 2]? = some (.int .i64 l[k].host) := by
    intro l
    induction l with
    | nil => intro k hk; simp at hk
    | cons a r ih =>
      intro k hk
      cases k with
      | zero => exact ⟨rfl, rfl, rfl⟩
      | succ k =>
        have := ih k (by simpa using hk)
        rw [List.flatMap_cons, show (k + 1) * 3 = k * 3 + 1 + 1 + 1 from by omega]
        exact this
  exact ⟨own_cell h (hg l k hk).1, own_cell h (hg l k hk).2.1, own_cell h (hg l k hk).2.2⟩
theorem flat_set3 : ∀ (l : List GivenP) (k : Nat) (y : GivenP), k < l.length → (((l.flatMap rowG).set (k * 3) (str y.frm)).set (k * 3 + 1) (str y.upto)).set (k * 3 + 2) (.int .i64 y.host) = (l.set k y).flatMap rowG
  | a :: r, 0, y, _ => rfl
  | a :: r, k + 1, y, h => by
    have ih := flat_set3 r k y (by simpa using h)
    rw [List.set_cons_succ, List.flatMap_cons, List.flatMap_cons, ← ih, show (k + 1) * 3 = k * 3 + 1 + 1 + 1 from by omega]
    rfl

def keyP (s : List UInt8) : List UInt8 := s.take 16
theorem keyP_len (s : List UInt8) : (keyP s).length ≤ 16 := by unfold keyP; rw [List.length_take]; omega
set_option maxHeartbeats 1000000 in
theorem keyOf_law (s : List UInt8) (w : World) : Calls Try.prog 29 #[str s] w fun e w' => e = .returned (str (keyP s)) ∧ w = w' := by
  go_enter Try.func29, Try.ntmps29
  by_cases h : 16 < s.length
  · have t1 : decide ((16 : Int) < (s.length : Int)) = true := decide_eq_true (by omega)
    have t2 : (16 : Int) ≤ (s.length : Int) := by omega
    have H := Lib.hid h
    clear h
    go_wp2_with fail
    all_goals first
      | (exfalso; have := H.out; omega)
      | (go_ret; exact ⟨rfl, rfl⟩)
  · have t1 : decide ((16 : Int) < (s.length : Int)) = false := decide_eq_false (by omega)
    have hk : keyP s = s := List.take_of_length_le (by omega)
    rw [hk]
    clear h
    go_wp2_with fail
    go_ret
    exact ⟨rfl, rfl⟩
theorem new_own (h : Int) (w : World) : Calls Try.prog 20 #[.int .i64 h] w fun e w' => ∃ v', e = .returned v' ∧ OwnB w.heap.size w' v' [⟨[], h⟩] ∧ Below w.heap.size w w' := by
  go_enter Try.func20, Try.ntmps20
  go_wp2_with fail
  go_ret
  exact ⟨_, rfl, own_lit w _ 2 1 #[str [], .int .i64 h] rfl (by decide), (Below.refl _ _).alloc (Nat.le_refl _) _⟩
end Go.Proofs.Ytlknkhmhdmpdkaa
