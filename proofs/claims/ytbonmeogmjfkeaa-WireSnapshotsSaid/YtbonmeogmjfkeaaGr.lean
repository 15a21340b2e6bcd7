/-
  Reading of all bytes, numbers: what the caller gets.
-/
import Derived.Test.YtbonmeogmjfkeaaGn
namespace Go.Proofs.Ytbonmeogmjfkeaa
open Go.RowKit Wm Mm
set_option linter.unusedVariables false

/-- what a reading of all bytes hands back -/
def GotInts (w : World) (res : Except Int (List Nat)) (e : Ending) (w' : World) : Prop :=
  match res with
  | .ok l => ∃ v, e = .returned (.tuple #[v, .int .i64 0]) ∧ w'.ownsRow w.heap.size 3 1 v l.length (l.map vNat) ∧ Below w.heap.size w w'
  | .error z => e = .returned (.tuple #[.slice none 0 0, .int .i64 z]) ∧ Below w.heap.size w w'

set_option maxHeartbeats 1000000 in
theorem read_ints (bc n : Nat) (s : List UInt8) (w : World) (hn : n ≤ 1000000) (hs : s.length ≤ 9223372036854775807) (hc : w.cell? ⟨bc, 0, none⟩ = some (.int .i64 n)) :
    Calls Try.prog 79 #[str s, .func (.func 80) #[] #[.pointer (some ⟨bc, 0, none⟩)]] w (GotInts w (full (rdMany n [] s))) := by
  have hmf : ∀ (fn : Fn) (first cap : Array Value) (w : World), (Instr.makeFunc fn first cap).run Try.prog w = .ok (.func fn first cap) w := fun _ _ _ _ => rfl
  have hbc : bc < w.heap.size := World.block_lt_of_cell? _ _ hc
  obtain ⟨res, HR⟩ := hide (rdMany n [] s)
  rw [HR.out]
  go_enter_defers Try.func79, Try.ntmps79
  go_wp2_with fail
  obtain ⟨W3, hW⟩ := hide (((w.alloc (.cells #[.slice none 0 0] 25)).alloc (.cells #[.int .i64 0] 22)).alloc (.cells #[str s] 164))
  rw [hW.out]
  have Hx : Hid (W3.heap[w.heap.size]? = some (.cells #[.slice none 0 0] 25 (0, 0))) := by
    rw [← hW.out]; exact (hp_past _ _ (by simp only [World.size_alloc]; omega)).trans ((hp_past _ _ (by simp only [World.size_alloc]; omega)).trans (hp_at _ _ rfl))
  have He : Hid (W3.heap[w.heap.size + 1]? = some (.cells #[.int .i64 0] 22 (0, 0))) := by
    rw [← hW.out]; exact (hp_past _ _ (by simp only [World.size_alloc]; omega)).trans (hp_at _ _ (by simp only [World.size_alloc]))
  have Hr : Hid (Rd W3 (w.heap.size + 1 + 1) s) := by
    rw [← hW.out]; exact ⟨hp_at _ _ (by simp only [World.size_alloc]), hs⟩
  have Hb : Hid (Below w.heap.size w W3) := by
    rw [← hW.out]
    exact (((Below.refl _ _).alloc (Nat.le_refl _) _).alloc (by simp) _).alloc (by simp; omega) _
  have hc3 : W3.cell? ⟨bc, 0, none⟩ = some (.int .i64 n) := by rw [Hb.out.cell (p := ⟨bc, 0, none⟩) hbc]; exact hc
  have hsz : W3.heap.size = w.heap.size + 3 := by rw [← hW.out]; simp
  have Hsz := Lib.hid hsz
  refine (getNumbers_f (w.heap.size + 1 + 1) bc n s W3 hn Hr.out hc3).mono ?_
  rw [HR.out]
  clear hc hc3 hsz
  intro e w1 hp
  cases res with
  | error z =>
    obtain ⟨rfl, hg⟩ := hp
    have hx1 := (hg.block w.heap.size (by rw [Hsz.out]; omega) (by simp; omega)).trans Hx.out
    have he1 := (hg.block (w.heap.size + 1) (by rw [Hsz.out]; omega) (by simp)).trans He.out
    have hb1 : Below w.heap.size w w1 := Hb.out.trans ⟨hg.os, hg.tape, hg.output, hg.size, fun k hk => hg.block k (by rw [Hsz.out]; omega) (by simp; omega)⟩
    have Hx1 := Lib.hid hx1
    have He1 := Lib.hid he1
    have Hb1 := Lib.hid hb1
    clear hg hx1 he1 hb1
    go_wp2_with fail
    refine leaves_cons (f := 146) (args := #[.pointer (some ⟨w.heap.size, 0, none⟩), .pointer (some ⟨w.heap.size + 1, 0, none⟩)]) (by simp) (by simp [go_sem]) ?_
    refine (catch_ints w.heap.size _ 0 z w1 Hx1.out He1.out).mono ?_
    rintro e u' w2 ⟨rfl, rfl, hx2, he2, hb2⟩
    have c1 := cell_of_one hx2
    have c2 := cell_of_one he2
    have Hb2 := Lib.hid (Hb1.out.trans hb2)
    clear hx2 he2 hb2
    simp [Leaves, settle, results, Try.results79, go_sem, c1, c2, GotInts, full]
    exact Hb2.out
  | ok p =>
    obtain ⟨l, t⟩ := p
    obtain ⟨v, rfl, ho, hr1, hg⟩ := hp
    obtain ⟨ao, co, rfl⟩ := owns_slice ho
    have hx1 := (hg.block w.heap.size (by rw [Hsz.out]; omega) (by simp; omega)).trans Hx.out
    have he1 := (hg.block (w.heap.size + 1) (by rw [Hsz.out]; omega) (by simp)).trans He.out
    have hb1 : Below w.heap.size w w1 := Hb.out.trans ⟨hg.os, hg.tape, hg.output, hg.size, fun k hk => hg.block k (by rw [Hsz.out]; omega) (by simp; omega)⟩
    have cx := cell_of_one hx1
    have fx := free_of_one hx1
    have cr := hr1.cell
    have fe := free_of_one he1
    have ce := cell_of_one he1
    have Hx1 := Lib.hid hx1
    have He1 := Lib.hid he1
    have Hb1 := Lib.hid hb1
    have Ho := Lib.hid ho
    clear hg hx1 he1 hb1 ho hr1
    cases t with
    | cons y t =>
      go_wp2_with (go_at_call 93; refine (fail_any _ _).mono ?_; rintro e w' ⟨rfl, rfl⟩)
      refine leaves_cons (f := 146) (args := #[.pointer (some ⟨w.heap.size, 0, none⟩), .pointer (some ⟨w.heap.size + 1, 0, none⟩)]) (by simp) (by simp [go_sem]) ?_
      refine (catch_ints w.heap.size _ 0 1 _ (one_setCell Hx1.out) (hp_set_other He1.out (by simp))).mono ?_
      rintro e u' w2 ⟨rfl, rfl, hx2, he2, hb2⟩
      have c1 := cell_of_one hx2
      have c2 := cell_of_one he2
      have Hb2 := Lib.hid ((Hb1.out.setCell (p := ⟨w.heap.size, 0, none⟩) (Nat.le_refl _) (.slice ao l.length co)).trans hb2)
      clear hx2 he2 hb2
      simp [Leaves, settle, results, Try.results79, go_sem, c1, c2, GotInts, full]
      exact Hb2.out
    | nil =>
      go_wp2_with fail
      rw [setCell_twice]
      have hx2 := one_setCell (u := .slice ao l.length co) Hx1.out
      have he2 := hp_set_other (a := ⟨w.heap.size, 0, none⟩) (v := .slice ao l.length co) He1.out (by simp)
      have he3 := one_setCell (u := .int .i64 0) he2
      have hx3 := hp_set_other (a := ⟨w.heap.size + 1, 0, none⟩) (v := .int .i64 0) hx2 (by simp)
      have hb3 := (Hb1.out.setCell (p := ⟨w.heap.size, 0, none⟩) (Nat.le_refl _) (.slice ao l.length co)).setCell (p := ⟨w.heap.size + 1, 0, none⟩) (Nat.le_succ _) (.int .i64 0)
      have hlt := (Ho.out).lt
      have ho3 := ownsRow_setCell_other (ownsRow_setCell_other Ho.out (a := ⟨w.heap.size, 0, none⟩) (fun e => by have := (hlt _ e).1; have := Hsz.out; simp at *; omega) (.slice ao l.length co)) (a := ⟨w.heap.size + 1, 0, none⟩) (fun e => by have := (hlt _ e).1; have := Hsz.out; simp at *; omega) (.int .i64 0)
      obtain ⟨W4, hW4⟩ := hide ((w1.setCell ⟨w.heap.size, 0, none⟩ (.slice ao l.length co)).setCell ⟨w.heap.size + 1, 0, none⟩ (.int .i64 0))
      rw [hW4.out] at he3 hx3 hb3 ho3 ⊢
      refine leaves_cons (f := 146) (args := #[.pointer (some ⟨w.heap.size, 0, none⟩), .pointer (some ⟨w.heap.size + 1, 0, none⟩)]) (by simp) (by simp [go_sem]) ?_
      refine (idle_ints _ _ _).mono ?_
      rintro e u' w2 ⟨rfl, rfl, rfl⟩
      have c1 := cell_of_one ((hp_past W4 (.cells #[.int .i64 0] 161) (fun e => by have := lt_of_block hx3; omega)).trans hx3)
      have c2 := cell_of_one ((hp_past W4 (.cells #[.int .i64 0] 161) (fun e => by have := lt_of_block he3; omega)).trans he3)
      refine ⟨_, by simp [results, Try.results79, go_sem, c1, c2]; rfl, ?_⟩
      refine ⟨_, rfl, own_base (ho3.alloc _) (by rw [Hsz.out]; omega), hb3.alloc hb3.size _⟩
end Go.Proofs.Ytbonmeogmjfkeaa
