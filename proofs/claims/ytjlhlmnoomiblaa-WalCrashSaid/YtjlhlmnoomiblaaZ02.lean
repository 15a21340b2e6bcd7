/-
  Files behind acts, in plain Lean: both ways come to the same, where no two files have one name.
-/
import Derived.Test.YtjlhlmnoomiblaaZ01
namespace Go.Proofs.Ytjlhlmnoomiblaa.Fl
open Wm
set_option linter.unusedVariables false
set_option linter.unusedSimpArgs false

structure FileP where
  nam : List UInt8
  dat : List UInt8
deriving DecidableEq
structure ActP where
  what : Int
  nam : List UInt8
  to : List UInt8
  dat : List UInt8
  size : Int
/-- the place of the first file of a name, or how many there are -/
def idx (n : List UInt8) : List FileP → Nat
  | [] => 0
  | f :: r => if f.nam = n then 0 else idx n r + 1
theorem idx_le (n : List UInt8) : ∀ l, idx n l ≤ l.length
  | [] => Nat.le_refl _
  | f :: r => by
    have := idx_le n r
    unfold idx
    split <;> simp <;> omega
theorem idx_at (n : List UInt8) : ∀ (l : List FileP) (h : idx n l < l.length), l[idx n l].nam = n
  | f :: r, h => by
    by_cases e : f.nam = n
    · have e1 : idx n (f :: r) = 0 := by show (if f.nam = n then 0 else idx n r + 1) = 0; rw [if_pos e]
      simp only [e1, List.getElem_cons_zero]
      exact e
    · have e1 : idx n (f :: r) = idx n r + 1 := by show (if f.nam = n then 0 else idx n r + 1) = _; rw [if_neg e]
      have h2 : idx n r < r.length := by rw [e1] at h; simpa using h
      simp only [e1, List.getElem_cons_succ]
      exact idx_at n r h2
theorem idx_lo (n : List UInt8) : ∀ (l : List FileP) (i : Nat) (hi : i < l.length), i < idx n l → l[i].nam ≠ n
  | f :: r, 0, _, h => by
    intro e
    have e' : f.nam = n := e
    have e1 : idx n (f :: r) = 0 := by show (if f.nam = n then 0 else idx n r + 1) = 0; rw [if_pos e']
    omega
  | f :: r, i + 1, hi, h => by
    by_cases e : f.nam = n
    · have e1 : idx n (f :: r) = 0 := by show (if f.nam = n then 0 else idx n r + 1) = 0; rw [if_pos e]
      omega
    · have e1 : idx n (f :: r) = idx n r + 1 := by show (if f.nam = n then 0 else idx n r + 1) = _; rw [if_neg e]
      exact idx_lo n r i (by simpa using hi) (by omega)
theorem idx_of (n : List UInt8) : ∀ (l : List FileP) (k : Nat), k ≤ l.length → (∀ i (hi : i < l.length), i < k → l[i].nam ≠ n) → (∀ h : k < l.length, l[k].nam = n) → idx n l = k
  | [], k, hk, _, _ => by simp at hk; subst hk; rfl
  | f :: r, 0, _, _, h2 => by
    have := h2 (by simp)
    simp at this
    show (if f.nam = n then 0 else idx n r + 1) = 0
    rw [if_pos this]
  | f :: r, k + 1, hk, h1, h2 => by
    have h0 := h1 0 (by simp) (by omega)
    simp at h0
    show (if f.nam = n then 0 else idx n r + 1) = _
    rw [if_neg h0, idx_of n r k (by simpa using hk) (fun i hi hik => by have := h1 (i + 1) (by simpa using hi) (by omega); simpa using this) (fun h => by have := h2 (by simpa using h); simpa using this)]
def datOf (n : List UInt8) (l : List FileP) : List UInt8 := match l[idx n l]? with | some f => f.dat | none => []
/-- no two files have one name -/
abbrev Apart (l : List FileP) : Prop := (l.map FileP.nam).Pairwise (· ≠ ·)
def cutP (s : Int) (d : List UInt8) : List UInt8 := d.take (min (max s 0) (d.length : Int)).toNat
/-- the program's way -/
def actW (l : List FileP) (a : ActP) : List FileP :=
  let k := idx a.nam l
  let d := datOf a.nam l
  if a.what = 1 then (if k < l.length then l.set k ⟨a.nam, a.dat⟩ else l ++ [⟨a.nam, a.dat⟩])
  else if a.what = 2 then (if k < l.length then l.set k ⟨a.nam, d ++ a.dat⟩ else l ++ [⟨a.nam, a.dat⟩])
  else if a.what = 6 then (if k < l.length then l.set k ⟨a.nam, cutP a.size d⟩ else l)
  else if a.what = 7 then (if k < l.length then l.eraseIdx k else l)
  else if a.what = 4 then (if k < l.length then l.filter (fun f => !(f.nam == a.nam || f.nam == a.to)) ++ [⟨a.to, d⟩] else l)
  else l
/-- the document's way -/
def seek (n : List UInt8) (l : List FileP) : List UInt8 × Bool := l.foldl (fun q f => if f.nam = n then (f.dat, true) else q) ([], false)
def dataR (l : List FileP) (a : ActP) : List UInt8 :=
  let was := (seek a.nam l).1
  if a.what = 1 then a.dat else if a.what = 2 then was ++ a.dat else if a.what = 6 then cutP a.size was else was
def keepR (l : List FileP) (a : ActP) (f : FileP) : Bool := !(f.nam == a.nam && (a.what == 7 || a.what == 4)) && !((seek a.nam l).2 && a.what == 4 && f.nam == a.to)
def putR (l : List FileP) (a : ActP) (f : FileP) : FileP := if f.nam = a.nam then ⟨f.nam, dataR l a⟩ else f
def actR (l : List FileP) (a : ActP) : List FileP :=
  (l.filter (keepR l a)).map (putR l a) ++ (if (seek a.nam l).2 = false ∧ (a.what = 1 ∨ a.what = 2) then [⟨a.nam, dataR l a⟩] else []) ++ (if (seek a.nam l).2 = true ∧ a.what = 4 then [⟨a.to, (seek a.nam l).1⟩] else [])

theorem seek_go (n : List UInt8) : ∀ (l : List FileP) (q : List UInt8 × Bool), (∀ f ∈ l, f.nam ≠ n) → l.foldl (fun q f => if f.nam = n then (f.dat, true) else q) q = q
  | [], _, _ => rfl
  | f :: r, q, h => by
    rw [List.foldl_cons, if_neg (h f List.mem_cons_self)]
    exact seek_go n r q (fun g hg => h g (List.mem_cons_of_mem _ hg))
theorem apart_none {n : List UInt8} {f : FileP} {r : List FileP} (h : Apart (f :: r)) (e : f.nam = n) : ∀ g ∈ r, g.nam ≠ n := fun g hg e2 => (List.pairwise_cons.1 h).1 g.nam (List.mem_map.2 ⟨g, hg, rfl⟩) (by rw [e, e2])
theorem none_of {n : List UInt8} {l : List FileP} (h : ¬ idx n l < l.length) : ∀ g ∈ l, g.nam ≠ n := by
  intro g hg
  obtain ⟨i, hi, rfl⟩ := List.getElem_of_mem hg
  exact idx_lo n l i hi (by omega)
theorem seek_eq (n : List UInt8) : ∀ {l : List FileP}, Apart l → seek n l = (datOf n l, decide (idx n l < l.length))
  | [], _ => rfl
  | f :: r, h => by
    have hr := (List.pairwise_cons.1 h).2
    by_cases e : f.nam = n
    · have e1 : idx n (f :: r) = 0 := by show (if f.nam = n then 0 else idx n r + 1) = 0; rw [if_pos e]
      unfold seek
      rw [List.foldl_cons, if_pos e, seek_go n r _ (apart_none h e)]
      unfold datOf
      rw [e1]
      simp
    · have e1 : idx n (f :: r) = idx n r + 1 := by show (if f.nam = n then 0 else idx n r + 1) = _; rw [if_neg e]
      have ih := seek_eq n hr
      unfold seek at ih ⊢
      rw [List.foldl_cons, if_neg e, ih]
      unfold datOf
      rw [e1]
      simp
theorem map_put {n : List UInt8} {x : List UInt8} : ∀ {l : List FileP}, Apart l → l.map (fun f => if f.nam = n then (⟨f.nam, x⟩ : FileP) else f) = if idx n l < l.length then l.set (idx n l) ⟨n, x⟩ else l
  | [], _ => rfl
  | f :: r, h => by
    have hr := (List.pairwise_cons.1 h).2
    by_cases e : f.nam = n
    · have e1 : idx n (f :: r) = 0 := by show (if f.nam = n then 0 else idx n r + 1) = 0; rw [if_pos e]
      have e2 : r.map (fun f => if f.nam = n then (⟨f.nam, x⟩ : FileP) else f) = r := by
        rw [← List.map_id r, List.map_map]
        refine List.map_congr_left (fun g hg => ?_)
        show (if g.nam = n then _ else g) = g
        rw [if_neg (apart_none h e g hg)]
      rw [List.map_cons, e2, if_pos e, e1, if_pos (by simp), List.set_cons_zero, e]
    · have e1 : idx n (f :: r) = idx n r + 1 := by show (if f.nam = n then 0 else idx n r + 1) = _; rw [if_neg e]
      rw [List.map_cons, map_put hr, if_neg e, e1]
      simp only [List.length_cons, Nat.add_lt_add_iff_right, List.set_cons_succ]
      split <;> rfl
theorem filter_erase {n : List UInt8} : ∀ {l : List FileP}, Apart l → l.filter (fun f => !(f.nam == n)) = if idx n l < l.length then l.eraseIdx (idx n l) else l
  | [], _ => rfl
  | f :: r, h => by
    have hr := (List.pairwise_cons.1 h).2
    by_cases e : f.nam = n
    · have e1 : idx n (f :: r) = 0 := by show (if f.nam = n then 0 else idx n r + 1) = 0; rw [if_pos e]
      rw [List.filter_cons, if_neg (by simp [e]), e1, if_pos (by simp), List.eraseIdx_cons_zero]
      exact List.filter_eq_self.2 (fun g hg => by simp [apart_none h e g hg])
    · have e1 : idx n (f :: r) = idx n r + 1 := by show (if f.nam = n then 0 else idx n r + 1) = _; rw [if_neg e]
      rw [List.filter_cons, if_pos (by simp [e]), filter_erase hr, e1]
      simp only [List.length_cons, Nat.add_lt_add_iff_right, List.eraseIdx_cons_succ]
      split <;> rfl
theorem map_self {p : FileP → FileP} : ∀ (l : List FileP), (∀ f ∈ l, p f = f) → l.map p = l
  | [], _ => rfl
  | f :: r, h => by rw [List.map_cons, h f List.mem_cons_self, map_self r (fun g hg => h g (List.mem_cons_of_mem _ hg))]
theorem act_eq {l : List FileP} (h : Apart l) (a : ActP) : actR l a = actW l a := by
  have hs := seek_eq a.nam h
  have hput : ∀ x, dataR l a = x → l.map (putR l a) = if idx a.nam l < l.length then l.set (idx a.nam l) ⟨a.nam, x⟩ else l := by
    intro x hx
    rw [← map_put h]
    refine List.map_congr_left (fun f _ => ?_)
    unfold putR
    rw [hx]
  by_cases h1 : a.what = 1
  · have hk : ∀ f ∈ l, keepR l a f = true := fun f _ => by unfold keepR; simp [h1]
    have hd : dataR l a = a.dat := by unfold dataR; simp [h1]
    unfold actR actW
    rw [List.filter_eq_self.2 hk, hput _ hd, hs, hd]
    simp only [h1, if_true]
    by_cases hi : idx a.nam l < l.length <;> simp [hi]
  by_cases h2 : a.what = 2
  · have hk : ∀ f ∈ l, keepR l a f = true := fun f _ => by unfold keepR; simp [h2]
    have hd : dataR l a = datOf a.nam l ++ a.dat := by unfold dataR; simp [h2, hs]
    unfold actR actW
    rw [List.filter_eq_self.2 hk, hput _ hd, hs, hd]
    simp only [h2]
    by_cases hi : idx a.nam l < l.length
    · simp [hi]
    · have : datOf a.nam l = [] := by unfold datOf; rw [List.getElem?_eq_none (by omega)]
      simp [hi, this]
  by_cases h6 : a.what = 6
  · have hk : ∀ f ∈ l, keepR l a f = true := fun f _ => by unfold keepR; simp [h6]
    have hd : dataR l a = cutP a.size (datOf a.nam l) := by unfold dataR; simp [h6, hs]
    unfold actR actW
    rw [List.filter_eq_self.2 hk, hput _ hd, hs, hd]
    simp only [h6]
    by_cases hi : idx a.nam l < l.length <;> simp [hi]
  by_cases h7 : a.what = 7
  · have hk : l.filter (keepR l a) = l.filter (fun f => !(f.nam == a.nam)) := List.filter_congr (fun f _ => by unfold keepR; simp [h7])
    unfold actR actW
    rw [hk, map_self _ (fun f hf => by have := (List.mem_filter.1 hf).2; unfold putR; rw [if_neg (by simpa using this)]), filter_erase h, hs]
    simp only [h7]
    by_cases hi : idx a.nam l < l.length <;> simp [hi]
  by_cases h4 : a.what = 4
  · unfold actR actW
    simp only [h4]
    by_cases hi : idx a.nam l < l.length
    · have hk : l.filter (keepR l a) = l.filter (fun f => !(f.nam == a.nam || f.nam == a.to)) := List.filter_congr (fun f _ => by unfold keepR; rw [hs]; simp [h4, hi])
      rw [hk, map_self _ (fun f hf => by have := (List.mem_filter.1 hf).2; unfold putR; rw [if_neg (by intro e; simp [e] at this)]), hs]
      simp [hi]
    · have hn := none_of hi
      have hk : l.filter (keepR l a) = l := List.filter_eq_self.2 (fun f hf => by unfold keepR; rw [hs]; simp [hi, hn f hf])
      rw [hk, map_self _ (fun f hf => by unfold putR; rw [if_neg (hn f hf)]), hs]
      simp [hi]
  · have hk : ∀ f ∈ l, keepR l a f = true := fun f _ => by unfold keepR; simp [h7, h4]
    have hd : dataR l a = datOf a.nam l := by unfold dataR; simp [h1, h2, h6, hs]
    unfold actR actW
    rw [List.filter_eq_self.2 hk, hput _ hd, hs]
    simp only [h1, h2, h4, h6, h7]
    by_cases hi : idx a.nam l < l.length
    · have hdd : datOf a.nam l = l[idx a.nam l].dat := by unfold datOf; rw [List.getElem?_eq_getElem hi]
      have : l.set (idx a.nam l) ⟨a.nam, datOf a.nam l⟩ = l := by
        have e : (⟨a.nam, datOf a.nam l⟩ : FileP) = l[idx a.nam l] := by
          have h8 : ∀ f : FileP, f.nam = a.nam → (⟨a.nam, f.dat⟩ : FileP) = f := by
            rintro ⟨n, d⟩ hn
            have hn' : n = a.nam := hn
            rw [hn']
          rw [hdd]
          exact h8 _ (idx_at a.nam l hi)
        rw [e]
        exact List.set_getElem_self hi
      simp [hi, this]
    · simp [hi]

theorem apart_act {l : List FileP} (h : Apart l) (a : ActP) : Apart (actW l a) := by
  have hset : ∀ (k : Nat) (hk : k < l.length) (x : List UInt8), l[k].nam = a.nam → Apart (l.set k ⟨a.nam, x⟩) := by
    intro k hk x e
    have : (l.set k ⟨a.nam, x⟩).map FileP.nam = l.map FileP.nam := by
      rw [List.map_set]
      have e2 : (l.map FileP.nam)[k]'(by simpa using hk) = a.nam := by simpa using e
      show (l.map FileP.nam).set k a.nam = _
      rw [← e2]
      exact List.set_getElem_self _
    unfold Apart
    rw [this]
    exact h
  have happ : ∀ (l : List FileP) (x : List UInt8) (n : List UInt8), Apart l → (∀ g ∈ l, g.nam ≠ n) → Apart (l ++ [⟨n, x⟩]) := by
    intro l x n h hn
    unfold Apart
    rw [List.map_append]
    refine List.pairwise_append.2 ⟨h, by simp, fun b hb c hc => ?_⟩
    obtain ⟨g, hg, rfl⟩ := List.mem_map.1 hb
    have : c = n := by simpa using hc
    rw [this]
    exact hn g hg
  unfold actW
  simp only []
  split
  · split
    · rename_i hi; exact hset _ hi _ (idx_at _ _ hi)
    · rename_i hi; exact happ _ _ _ h (none_of hi)
  split
  · split
    · rename_i hi; exact hset _ hi _ (idx_at _ _ hi)
    · rename_i hi; exact happ _ _ _ h (none_of hi)
  split
  · split
    · rename_i hi; exact hset _ hi _ (idx_at _ _ hi)
    · exact h
  split
  · split
    · exact List.Pairwise.sublist (List.Sublist.map _ (List.eraseIdx_sublist _ _)) h
    · exact h
  split
  · split
    · refine happ _ _ _ (List.Pairwise.sublist (List.Sublist.map _ List.filter_sublist) h) (fun g hg e => ?_)
      have := (List.mem_filter.1 hg).2
      simp [e] at this
    · exact h
  · exact h
theorem act_len (l : List FileP) (a : ActP) : (actW l a).length ≤ l.length + 1 := by
  unfold actW
  simp only []
  have := List.length_filter_le (fun f : FileP => !(f.nam == a.nam || f.nam == a.to)) l
  have h2 : ∀ k, (l.eraseIdx k).length ≤ l.length := fun k => by
    have := (List.eraseIdx_sublist l k).length_le
    exact this
  repeat' split
  all_goals try simp only [List.length_set, List.length_append, List.length_cons, List.length_nil]
  all_goals first
    | omega
    | (have := h2 (idx a.nam l); omega)
/-- how long the data may be -/
def Short (B : Nat) (l : List FileP) : Prop := ∀ f ∈ l, f.dat.length ≤ B
theorem short_dat {B : Nat} {l : List FileP} (h : Short B l) (n : List UInt8) : (datOf n l).length ≤ B := by
  unfold datOf
  split
  · rename_i f hf
    exact h f (List.mem_of_getElem? hf)
  · exact Nat.zero_le _
theorem short_act {B C : Nat} {l : List FileP} (h : Short B l) (a : ActP) (hC : a.dat.length ≤ C) : Short (B + C) (actW l a) := by
  have hd := short_dat h a.nam
  have h0 : Short (B + C) l := fun f hf => Nat.le_trans (h f hf) (by omega)
  have hset : ∀ (k : Nat) (g : FileP), g.dat.length ≤ B + C → Short (B + C) (l.set k g) := by
    intro k g hg f hf
    rcases List.mem_or_eq_of_mem_set hf with e | e
    · exact h0 f e
    · rw [e]; exact hg
  have happ : ∀ (l : List FileP) (g : FileP), Short (B + C) l → g.dat.length ≤ B + C → Short (B + C) (l ++ [g]) := by
    intro l g h1 hg f hf
    rcases List.mem_append.1 hf with e | e
    · exact h1 f e
    · have : f = g := by simpa using e
      rw [this]; exact hg
  unfold actW
  simp only []
  split
  · split
    · exact hset _ _ (by show a.dat.length ≤ _; omega)
    · exact happ _ _ h0 (by show a.dat.length ≤ _; omega)
  split
  · split
    · exact hset _ _ (by show (datOf a.nam l ++ a.dat).length ≤ _; rw [List.length_append]; omega)
    · exact happ _ _ h0 (by show a.dat.length ≤ _; omega)
  split
  · split
    · exact hset _ _ (by show (cutP a.size (datOf a.nam l)).length ≤ _; unfold cutP; rw [List.length_take]; omega)
    · exact h0
  split
  · split
    · exact fun f hf => h0 f ((List.eraseIdx_sublist _ _).subset hf)
    · exact h0
  split
  · split
    · exact happ _ _ (fun f hf => h0 f (List.mem_filter.1 hf).1) (by show (datOf a.nam l).length ≤ _; omega)
    · exact h0
  · exact h0
end Go.Proofs.Ytjlhlmnoomiblaa.Fl
