/-
  Bounds of keys, in plain Lean: what was given last.
-/
import Derived.Test.YtlknkhmhdmpdkaaDb
namespace Go.Proofs.Ytlknkhmhdmpdkaa.Dg
open Wm
set_option linter.unusedVariables false
set_option linter.unusedSimpArgs false

theorem hostUp_app (key : List UInt8) (h : Int) (a b : List BoundP) : hostUp key h (a ++ b) = hostUp key (hostUp key h a) b := by unfold hostUp; rw [List.foldl_append]
theorem hostUp_cons (key : List UInt8) (h : Int) (b : BoundP) (r : List BoundP) : hostUp key h (b :: r) = hostUp key (if le b.frm key then b.host else h) r := rfl
theorem hostUp_last (key : List UInt8) (h : Int) (a : List BoundP) (b : BoundP) : hostUp key h (a ++ [b]) = if le b.frm key then b.host else hostUp key h a := by rw [hostUp_app]; rfl
theorem hostUp_filter {key : List UInt8} {p : BoundP → Bool} : ∀ (l : List BoundP) (h : Int), (∀ b ∈ l, p b = false → le b.frm key = false) → hostUp key h (l.filter p) = hostUp key h l
  | [], _, _ => rfl
  | b :: r, h, hh => by
    have ih := fun h => hostUp_filter r h (fun c hc => hh c (List.mem_cons_of_mem _ hc))
    rw [List.filter_cons]
    by_cases e : p b = true
    · rw [if_pos e, hostUp_cons, hostUp_cons, ih]
    · rw [if_neg e, hostUp_cons, if_neg (by rw [hh b List.mem_cons_self (by simpa using e)]; decide), ih]
/-- where all lie at or below both keys they are the same -/
theorem hostUp_all {k1 k2 : List UInt8} : ∀ (l : List BoundP) (h : Int), (∀ b ∈ l, le b.frm k1 = true ∧ le b.frm k2 = true) → hostUp k1 h l = hostUp k2 h l
  | [], _, _ => rfl
  | b :: r, h, hh => by
    have hb := hh b List.mem_cons_self
    rw [hostUp_cons, hostUp_cons, if_pos hb.1, if_pos hb.2]
    exact hostUp_all r _ (fun c hc => hh c (List.mem_cons_of_mem _ hc))
theorem rise_split {up : List UInt8} : ∀ {l : List BoundP}, Rise (l.map BoundP.frm) → l = l.filter (fun b => !(lt up b.frm)) ++ l.filter (fun b => lt up b.frm)
  | [], _ => rfl
  | b :: r, h => by
    have h' := List.pairwise_cons.1 h
    have ih := rise_split (up := up) h'.2
    rw [List.filter_cons, List.filter_cons]
    cases e : lt up b.frm
    · rw [if_pos (by rfl), if_neg (by decide), List.cons_append, ← ih]
    · have e1 : r.filter (fun b => !(lt up b.frm)) = [] := List.filter_eq_nil_iff.2 (fun c hc => by
        have := lt_trans e (h'.1 c.frm (List.mem_map.2 ⟨c, hc, rfl⟩))
        rw [this]; decide)
      rw [if_neg (by decide), if_pos (by rfl), e1, List.nil_append]
      rw [e1, List.nil_append] at ih
      rw [← ih]
theorem le_of_lt {a b : List UInt8} (h : lt a b = true) : le a b = true := by unfold le; rw [h]; rfl
theorem le_refl (a : List UInt8) : le a a = true := by unfold le; simp
theorem le_trans {a b c : List UInt8} (h : le a b = true) (k : le b c = true) : le a c = true := by
  rw [le_not] at h k ⊢
  cases e : lt c a
  · rfl
  · have h' : lt b a = false := by simpa using h
    rw [lt_le e h'] at k
    exact k
theorem head_app {α : Type} {a : List α} (b : List α) (h : a ≠ []) : (a ++ b).head? = a.head? := by
  cases a with
  | nil => exact absurd rfl h
  | cons x r => rfl

theorem rise_edges {l : List BoundP} (h : okB l = true) {fr up : List UInt8} (hr : up = [] ∨ lt fr up = true) : Rise (sortedE l fr up) := by rw [← edges_eq h hr]; exact edges_rise l fr up
theorem rise_raw {l : List BoundP} (h : okB l = true) {fr up : List UInt8} (hr : up = [] ∨ lt fr up = true) (host : Int) : Rise ((rawP l fr up host).map BoundP.frm) := by
  refine List.Pairwise.sublist ?_ (rise_edges h hr)
  unfold rawP sortedE
  rw [List.map_append, List.map_cons, List.map_append]
  have hf : ∀ (p : List UInt8 → Bool) (l : List BoundP), (l.filter (fun b => p b.frm)).map BoundP.frm = (l.map BoundP.frm).filter p := by
    intro p l
    rw [List.filter_map]
    rfl
  refine List.Sublist.append (by rw [hf (fun x => lt x fr)]; exact List.Sublist.refl _) (List.Sublist.cons_cons _ ?_)
  refine List.Sublist.trans ?_ (List.sublist_append_right _ _)
  by_cases hu : up = []
  · rw [if_pos hu, if_pos hu]
    have e0 : l.filter (fun b => up != [] && lt up b.frm) = [] := List.filter_eq_nil_iff.2 (fun b _ => by simp [hu])
    rw [e0]
    exact List.Sublist.refl _
  · rw [if_neg hu, if_neg hu]
    have e0 : l.filter (fun b => up != [] && lt up b.frm) = l.filter (fun b => lt up b.frm) := List.filter_congr (fun b _ => by simp [hu])
    rw [e0, hf (fun x => lt up x)]
    exact List.Sublist.refl _

theorem compact_snoc (Y : List BoundP) (b : BoundP) : compactP (Y ++ [b]) = keepIf (compactP Y) b := by unfold compactP; rw [List.foldl_append]; rfl
/-- a list as one that is built from its head on -/
theorem snoc_ind {α : Type} {p : List α → Prop} (h0 : p []) (h1 : ∀ Y b, p Y → p (Y ++ [b])) : ∀ n (X : List α), X.length = n → p X
  | 0, X, h => by rw [List.length_eq_zero_iff.1 h]; exact h0
  | n + 1, X, h => by
    have hX : X ≠ [] := by intro e; rw [e] at h; cases h
    rw [← List.dropLast_concat_getLast hX]
    exact h1 _ _ (snoc_ind h0 h1 n _ (by rw [List.length_dropLast]; omega))
theorem compact_sub : ∀ X : List BoundP, (compactP X).Sublist X := fun X => snoc_ind (p := fun X => (compactP X).Sublist X) (List.Sublist.refl _) (fun Y b ih => by
  rw [compact_snoc]
  unfold keepIf
  split
  · exact ih.trans (List.sublist_append_left _ _)
  · exact List.Sublist.append ih (List.Sublist.refl _)) _ X rfl
theorem compact_head : ∀ X : List BoundP, (compactP X).head? = X.head? := fun X => snoc_ind (p := fun X => (compactP X).head? = X.head?) rfl (fun Y b ih => by
  rw [compact_snoc]
  unfold keepIf
  by_cases hY : Y = []
  · subst hY; rfl
  · have hc : compactP Y ≠ [] := by
      intro e
      rw [e] at ih
      cases Y with
      | nil => exact hY rfl
      | cons a r => cases ih
    split
    · rw [ih, head_app _ hY]
    · rw [head_app _ hc, ih, head_app _ hY]) _ X rfl
def Diff (l : List BoundP) : Prop := ∀ i (h : i + 1 < l.length), (l[i]'(by omega)).host ≠ l[i + 1].host
theorem diff_compact : ∀ X : List BoundP, Diff (compactP X) := fun X => snoc_ind (p := fun X => Diff (compactP X)) (fun i h => by simp [compactP] at h) (fun Y b ih => by
  rw [compact_snoc]
  unfold keepIf
  split
  · exact ih
  · rename_i hne
    intro i h
    rw [List.length_append, List.length_singleton] at h
    rcases Nat.lt_or_ge (i + 1) (compactP Y).length with h1 | h1
    · rw [List.getElem_append_left (by omega), List.getElem_append_left h1]
      exact ih i h1
    · have hi : i + 1 = (compactP Y).length := by omega
      rw [List.getElem_append_left (by omega), List.getElem_append_right (by omega)]
      simp only [hi, Nat.sub_self, List.getElem_cons_zero]
      intro e
      refine hne ?_
      rw [List.getLast?_eq_getElem?, ← hi, Nat.add_sub_cancel, List.getElem?_eq_getElem (by omega)]
      simp [e]) _ X rfl
theorem compact_diff : ∀ X : List BoundP, Diff X → compactP X = X := fun X => snoc_ind (p := fun X => Diff X → compactP X = X) (fun _ => rfl) (fun Y b ih hd => by
  have hdY : Diff Y := fun i h => by
    have := hd i (by rw [List.length_append]; omega)
    rw [List.getElem_append_left (by omega), List.getElem_append_left h] at this
    exact this
  rw [compact_snoc, ih hdY]
  unfold keepIf
  rw [if_neg]
  intro e
  rw [List.getLast?_eq_getElem?] at e
  cases hY : Y.length with
  | zero => rw [List.length_eq_zero_iff.1 hY] at e; cases e
  | succ n =>
    rw [hY, Nat.add_sub_cancel, List.getElem?_eq_getElem (by omega)] at e
    have := hd n (by rw [List.length_append, hY]; simp)
    rw [List.getElem_append_left (by omega), List.getElem_append_right (by omega)] at this
    simp only [hY, Nat.sub_self, List.getElem_cons_zero] at this
    exact this (by simpa using e)) _ X rfl
theorem host_compact (key : List UInt8) : ∀ X : List BoundP, Rise (X.map BoundP.frm) → hostOf key (compactP X) = hostOf key X := fun X => snoc_ind (p := fun X => Rise (X.map BoundP.frm) → hostOf key (compactP X) = hostOf key X) (fun _ => rfl) (fun Y b ih hr => by
  rw [List.map_append] at hr
  have hr2 := List.pairwise_append.1 hr
  have ihY := ih hr2.1
  rw [compact_snoc]
  unfold hostOf at ihY ⊢
  rw [hostUp_last]
  unfold keepIf
  split
  · rename_i hl
    by_cases e : le b.frm key = true
    · rw [if_pos e]
      have hc : compactP Y ≠ [] := by intro e0; rw [e0] at hl; cases hl
      have hlast := List.dropLast_concat_getLast hc
      have hmem : (compactP Y).getLast hc ∈ Y := (compact_sub Y).subset (List.getLast_mem hc)
      have hlt : lt ((compactP Y).getLast hc).frm b.frm = true := hr2.2.2 _ (List.mem_map.2 ⟨_, hmem, rfl⟩) _ (by simp)
      have hh : ((compactP Y).getLast hc).host = b.host := by
        rw [List.getLast?_eq_some_getLast hc] at hl
        exact Option.some.inj hl
      rw [← hlast, hostUp_last, if_pos (le_trans (le_of_lt hlt) e), hh]
    · rw [if_neg e]
      exact ihY
  · rw [hostUp_last, ihY]) _ X rfl
end Go.Proofs.Ytlknkhmhdmpdkaa.Dg
