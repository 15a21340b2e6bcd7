/-
  Configurations, in plain Lean: rising lists, quorums, changes. No program in sight.
-/
import Derived.Test.YtgdmcbjlfnjhjaaCj
import Derived.Test.YtgdmcbjlfnjhjaaEc
namespace Go.Proofs.Ytgdmcbjlfnjhjaa
open Go.RowKit Wm Mm
set_option linter.unusedVariables false
set_option linter.unusedSimpArgs false

abbrev Strict (l : List Int) : Prop := l.Pairwise (· < ·)
theorem strict_ext {a b : List Int} (ha : Strict a) (hb : Strict b) (h : ∀ x, x ∈ a ↔ x ∈ b) : a = b := by
  induction a generalizing b with
  | nil =>
    cases b with
    | nil => rfl
    | cons y b => exact absurd ((h y).2 (List.mem_cons_self ..)) (by simp)
  | cons x a ih =>
    cases b with
    | nil => exact absurd ((h x).1 (List.mem_cons_self ..)) (by simp)
    | cons y b =>
      have hxa := List.pairwise_cons.1 ha
      have hyb := List.pairwise_cons.1 hb
      have hxy : x = y := by
        have h1 := (h x).1 (List.mem_cons_self ..)
        have h2 := (h y).2 (List.mem_cons_self ..)
        rcases List.mem_cons.1 h1 with e | e
        · exact e
        · rcases List.mem_cons.1 h2 with f | f
          · exact f.symm
          · have := hxa.1 y f
            have := hyb.1 x e
            omega
      subst hxy
      congr 1
      refine ih hxa.2 hyb.2 (fun z => ⟨fun hz => ?_, fun hz => ?_⟩)
      · rcases List.mem_cons.1 ((h z).1 (List.mem_cons_of_mem _ hz)) with e | e
        · subst e
          have := hxa.1 z hz
          omega
        · exact e
      · rcases List.mem_cons.1 ((h z).2 (List.mem_cons_of_mem _ hz)) with e | e
        · subst e
          have := hyb.1 z hz
          omega
        · exact e
theorem hasB_iff {l : List Int} {n : Int} : hasB l n = true ↔ n ∈ l := by
  simp [hasB]
theorem hasB_eq {l m : List Int} {n k : Int} (h : n ∈ l ↔ k ∈ m) : hasB l n = hasB m k := by
  rw [Bool.eq_iff_iff, hasB_iff, hasB_iff, h]
theorem rising_strict {l : List Int} (h : risingB l = true) : Strict l := by
  have hall : ∀ i (hi : i < l.length), okAt l i = true := by
    intro i hi
    simp only [risingB, List.all_eq_true, List.mem_range] at h
    exact h i hi
  have key : ∀ j (hj : j < l.length) i (hi : i < j), l[i]'(by omega) < l[j] := by
    intro j
    induction j with
    | zero => intro hj i hi; omega
    | succ j ih =>
      intro hj i hi
      have h1 := (okAt_facts hj (hall _ hj)).2.2 j rfl
      rcases Nat.lt_or_eq_of_le (Nat.le_of_lt_succ hi) with h2 | rfl
      · have := ih (by omega) i h2
        omega
      · exact h1
  exact List.pairwise_iff_getElem.2 (fun i j hi hj hij => key j hj i hij)
theorem rising_iff {l : List Int} : risingB l = true ↔ Strict l ∧ ∀ x ∈ l, 1 ≤ x ∧ x ≤ 9 := by
  constructor
  · intro h
    refine ⟨rising_strict h, fun x hx => ?_⟩
    obtain ⟨i, hi, rfl⟩ := List.getElem_of_mem hx
    have hall : okAt l i = true := by
      simp only [risingB, List.all_eq_true, List.mem_range] at h
      exact h i hi
    have := okAt_facts hi hall
    exact ⟨this.1, this.2.1⟩
  · rintro ⟨hs, hb⟩
    refine risingB_of (fun i hi => ?_)
    have hx := hb l[i] (List.getElem_mem _)
    unfold okAt
    rw [List.getElem?_eq_getElem hi]
    simp only [okX, Bool.and_eq_true, decide_eq_true_eq]
    refine ⟨hx.1, hx.2, ?_⟩
    cases i with
    | zero => rfl
    | succ j =>
      rw [okPrev, List.getElem?_eq_getElem (by omega : j < l.length)]
      simp only [decide_eq_true_eq]
      exact List.pairwise_iff_getElem.1 hs j (j + 1) (by omega) hi (by omega)

/-- a number put into a rising list; taken out of a list -/
def insP (n : Int) : List Int → List Int
  | [] => [n]
  | x :: r => if n < x then n :: x :: r else if n = x then x :: r else x :: insP n r
def outP (n : Int) (l : List Int) : List Int := l.filter (fun x => !(x == n))
theorem mem_insP {n x : Int} {l : List Int} : x ∈ insP n l ↔ x = n ∨ x ∈ l := by
  induction l with
  | nil => simp [insP]
  | cons y l ih =>
    unfold insP
    split
    · simp
    · split
      · rename_i h
        subst h
        simp
      · rw [List.mem_cons, ih, List.mem_cons]
        constructor
        · rintro (h | h | h)
          · exact .inr (.inl h)
          · exact .inl h
          · exact .inr (.inr h)
        · rintro (h | h | h)
          · exact .inr (.inl h)
          · exact .inl h
          · exact .inr (.inr h)
theorem strict_insP {n : Int} {l : List Int} (h : Strict l) : Strict (insP n l) := by
  induction l with
  | nil => simp [insP]
  | cons y l ih =>
    have hy := List.pairwise_cons.1 h
    unfold insP
    split
    · rename_i hlt
      refine List.pairwise_cons.2 ⟨fun x hx => ?_, h⟩
      rcases List.mem_cons.1 hx with e | e
      · omega
      · have := hy.1 x e
        omega
    · split
      · exact h
      · rename_i h1 h2
        refine List.pairwise_cons.2 ⟨fun x hx => ?_, ih hy.2⟩
        rcases mem_insP.1 hx with e | e
        · omega
        · exact hy.1 x e
theorem mem_outP {n x : Int} {l : List Int} : x ∈ outP n l ↔ x ∈ l ∧ x ≠ n := by simp [outP]
theorem strict_outP {n : Int} {l : List Int} (h : Strict l) : Strict (outP n l) := h.filter _
theorem rising_insP {n : Int} {l : List Int} (h : risingB l = true) (h1 : 1 ≤ n) (h9 : n ≤ 9) : risingB (insP n l) = true := by
  rw [rising_iff] at h ⊢
  refine ⟨strict_insP h.1, fun x hx => ?_⟩
  rcases mem_insP.1 hx with e | e
  · omega
  · exact h.2 x e
theorem rising_outP {n : Int} {l : List Int} (h : risingB l = true) : risingB (outP n l) = true := by
  rw [rising_iff] at h ⊢
  exact ⟨strict_outP h.1, fun x hx => h.2 x (mem_outP.1 hx).1⟩

/-- more than half of some are among others -/
def mostB (l among : List Int) : Bool := decide (l.length < 2 * (l.filter (hasB among)).length)
def quorumB (c : Conf) (hv : List Int) : Bool := mostB c.v hv && (decide (c.n.length = 0) || mostB c.n hv)
def meetB (a b among : List Int) : Bool := a.any (fun x => hasB b x && hasB among x)
theorem filter_both (p q : Int → Bool) (l : List Int) (h : ∀ x ∈ l, ¬ (p x = true ∧ q x = true)) : (l.filter p).length + (l.filter q).length ≤ l.length := by
  induction l with
  | nil => simp
  | cons x l ih =>
    have h1 := ih (fun y hy => h y (List.mem_cons_of_mem _ hy))
    have h2 := h x (List.mem_cons_self ..)
    simp only [List.filter_cons, List.length_cons]
    cases hp : p x <;> cases hq : q x <;> simp_all <;> omega
theorem most_meet {l a b : List Int} (ha : mostB l a = true) (hb : mostB l b = true) : ∃ x, x ∈ l ∧ x ∈ a ∧ x ∈ b := by
  simp only [mostB, decide_eq_true_eq] at ha hb
  refine Classical.byContradiction (fun hno => ?_)
  have := filter_both (hasB a) (hasB b) l (fun x hx h => hno ⟨x, hx, hasB_iff.1 h.1, hasB_iff.1 h.2⟩)
  omega
theorem meet_of {l a b m : List Int} (ha : mostB l a = true) (hb : mostB l b = true) (hm : ∀ x ∈ l, x ∈ m) : meetB a b m = true := by
  obtain ⟨x, h1, h2, h3⟩ := most_meet ha hb
  simp only [meetB, List.any_eq_true, Bool.and_eq_true]
  exact ⟨x, h2, hasB_iff.2 h3, hasB_iff.2 (hm x h1)⟩
theorem most_all {l : List Int} (h : l ≠ []) : mostB l l = true := by
  have e : l.filter (hasB l) = l := List.filter_eq_self.2 (fun x hx => hasB_iff.2 hx)
  have : 0 < l.length := List.length_pos_iff.2 h
  simp only [mostB, e, decide_eq_true_eq]
  omega
theorem most_none (l : List Int) : mostB l [] = false := by
  have e : l.filter (hasB []) = [] := List.filter_eq_nil_iff.2 (fun x hx => by simp [hasB])
  simp [mostB, e]

/-- a change -/
structure OpP where
  kind : Int
  node : Int
def stepP (cv : List Int) (s : List Int × List Int) (o : OpP) : Option (List Int × List Int) :=
  if o.node < 1 ∨ 9 < o.node then none
  else if o.kind = 1 ∧ hasB s.1 o.node = false then some (insP o.node s.1, outP o.node s.2)
  else if o.kind = 2 ∧ hasB s.1 o.node = false ∧ hasB s.2 o.node = false ∧ hasB cv o.node = false then some (s.1, insP o.node s.2)
  else if o.kind = 3 ∧ (hasB s.1 o.node || hasB s.2 o.node) = true then some (outP o.node s.1, outP o.node s.2)
  else none
def opsP (cv : List Int) : List OpP → List Int × List Int → Option (List Int × List Int)
  | [], s => some s
  | o :: r, s =>
    match stepP cv s o with
    | none => none
    | some s1 => opsP cv r s1
abbrev noC : Conf := ⟨[], [], []⟩
def beginP (c : Conf) (ops : List OpP) : Int × Conf :=
  if validB c = false then (8, noC)
  else if 0 < c.n.length then (9, noC)
  else if ops.length = 0 ∨ 6 < ops.length then (4, noC)
  else match opsP c.v ops (c.v, c.l) with
    | none => (8, noC)
    | some s => if s.1.length = 0 then (8, noC) else if s.1 = c.v then (0, ⟨s.1, [], s.2⟩) else (0, ⟨c.v, s.1, s.2⟩)
def finishP (c : Conf) : Int × Conf := if validB c = false ∨ c.n.length = 0 then (8, noC) else (0, ⟨c.n, [], c.l⟩)

structure InvO (cv : List Int) (s : List Int × List Int) : Prop where
  a : risingB s.1 = true
  b : risingB s.2 = true
  c : ∀ x ∈ s.2, x ∉ s.1 ∧ x ∉ cv
theorem InvO.step {cv : List Int} {s s1 : List Int × List Int} {o : OpP} (h : InvO cv s) (hs : stepP cv s o = some s1) : InvO cv s1 := by
  unfold stepP at hs
  split at hs
  · cases hs
  rename_i hn
  split at hs
  · rename_i h1
    cases hs
    refine ⟨rising_insP h.a (by omega) (by omega), rising_outP h.b, fun x hx => ?_⟩
    obtain ⟨e1, e2⟩ := mem_outP.1 hx
    refine ⟨fun hi => ?_, (h.c x e1).2⟩
    rcases mem_insP.1 hi with e | e
    · exact e2 e
    · exact (h.c x e1).1 e
  split at hs
  · rename_i h1 h2
    cases hs
    obtain ⟨_, g1, g2, g3⟩ := h2
    refine ⟨h.a, rising_insP h.b (by omega) (by omega), fun x hx => ?_⟩
    rcases mem_insP.1 hx with e | e
    · subst e
      exact ⟨fun hi => (by rw [hasB_iff.2 hi] at g1; cases g1), fun hi => (by rw [hasB_iff.2 hi] at g3; cases g3)⟩
    · exact h.c x e
  split at hs
  · cases hs
    refine ⟨rising_outP h.a, rising_outP h.b, fun x hx => ?_⟩
    obtain ⟨e1, e2⟩ := mem_outP.1 hx
    exact ⟨fun hi => (h.c x e1).1 (mem_outP.1 hi).1, (h.c x e1).2⟩
  · cases hs
theorem InvO.ops {cv : List Int} {ops : List OpP} : ∀ {s s1 : List Int × List Int}, InvO cv s → opsP cv ops s = some s1 → InvO cv s1 := by
  induction ops with
  | nil => intro s s1 h hs; cases hs; exact h
  | cons o r ih =>
    intro s s1 h hs
    rw [opsP] at hs
    split at hs
    · cases hs
    · rename_i s2 e2
      exact ih (h.step e2) hs
/-- does a node stand as its last operation wants? -/
def wantB (o : OpP) (v l : List Int) : Bool := ((o.kind == 1) && (hasB v o.node && !(hasB l o.node))) || (((o.kind == 2) && (hasB l o.node && !(hasB v o.node))) || ((o.kind == 3) && (!(hasB v o.node) && !(hasB l o.node))))
theorem stepP_want {cv : List Int} {s s1 : List Int × List Int} {o : OpP} (hs : stepP cv s o = some s1) : wantB o s1.1 s1.2 = true := by
  unfold stepP at hs
  split at hs
  · cases hs
  split at hs
  · rename_i h1
    cases hs
    have e1 : hasB (insP o.node s.1) o.node = true := hasB_iff.2 (mem_insP.2 (Or.inl rfl))
    have e2 : hasB (outP o.node s.2) o.node = false := by
      rw [← Bool.not_eq_true, hasB_iff]
      exact fun h => (mem_outP.1 h).2 rfl
    simp [wantB, e1, e2, h1.1]
  split at hs
  · rename_i h1 h2
    cases hs
    have e1 : hasB (insP o.node s.2) o.node = true := hasB_iff.2 (mem_insP.2 (Or.inl rfl))
    simp [wantB, e1, h2.1, h2.2.1]
  split at hs
  · rename_i h1 h2 h3
    cases hs
    have e1 : hasB (outP o.node s.1) o.node = false := by
      rw [← Bool.not_eq_true, hasB_iff]
      exact fun h => (mem_outP.1 h).2 rfl
    have e2 : hasB (outP o.node s.2) o.node = false := by
      rw [← Bool.not_eq_true, hasB_iff]
      exact fun h => (mem_outP.1 h).2 rfl
    simp [wantB, e1, e2, h3.1]
  · cases hs
theorem stepP_other {cv : List Int} {s s1 : List Int × List Int} {o : OpP} {n : Int} (hs : stepP cv s o = some s1) (hn : o.node ≠ n) : hasB s1.1 n = hasB s.1 n ∧ hasB s1.2 n = hasB s.2 n := by
  have hi : ∀ l, hasB (insP o.node l) n = hasB l n := fun l => hasB_eq ⟨fun h => (mem_insP.1 h).resolve_left (fun e => hn e.symm), fun h => mem_insP.2 (Or.inr h)⟩
  have ho : ∀ l, hasB (outP o.node l) n = hasB l n := fun l => hasB_eq ⟨fun h => (mem_outP.1 h).1, fun h => mem_outP.2 ⟨h, fun e => hn e.symm⟩⟩
  unfold stepP at hs
  split at hs
  · cases hs
  split at hs
  · cases hs; exact ⟨hi _, ho _⟩
  split at hs
  · cases hs; exact ⟨rfl, hi _⟩
  split at hs
  · cases hs; exact ⟨ho _, ho _⟩
  · cases hs
theorem opsP_other {cv : List Int} {ops : List OpP} {n : Int} (hn : ∀ o ∈ ops, o.node ≠ n) : ∀ {s s1 : List Int × List Int}, opsP cv ops s = some s1 → hasB s1.1 n = hasB s.1 n ∧ hasB s1.2 n = hasB s.2 n := by
  induction ops with
  | nil => intro s s1 hs; cases hs; exact ⟨rfl, rfl⟩
  | cons o r ih =>
    intro s s1 hs
    rw [opsP] at hs
    split at hs
    · cases hs
    · rename_i s2 e2
      have h1 := ih (fun o ho => hn o (List.mem_cons_of_mem _ ho)) hs
      have h2 := stepP_other e2 (hn o (List.mem_cons_self ..))
      exact ⟨h1.1.trans h2.1, h1.2.trans h2.2⟩
theorem wantB_eq {o : OpP} {v l v' l' : List Int} (h1 : hasB v' o.node = hasB v o.node) (h2 : hasB l' o.node = hasB l o.node) : wantB o v' l' = wantB o v l := by
  unfold wantB; rw [h1, h2]
theorem opsP_want {cv : List Int} {ops : List OpP} : ∀ {s s1 : List Int × List Int}, opsP cv ops s = some s1 → ∀ i (hi : i < ops.length), (∀ k (hk : k < ops.length), i < k → ops[k].node ≠ ops[i].node) → wantB ops[i] s1.1 s1.2 = true := by
  induction ops with
  | nil => intro s s1 hs i hi; simp at hi
  | cons o r ih =>
    intro s s1 hs i hi hl
    rw [opsP] at hs
    split at hs
    · cases hs
    · rename_i s2 e2
      cases i with
      | zero =>
        have h1 : ∀ p ∈ r, p.node ≠ o.node := by
          intro p hp
          obtain ⟨k, hk, rfl⟩ := List.getElem_of_mem hp
          have := hl (k + 1) (by simp; omega) (by omega)
          simpa using this
        obtain ⟨a, b⟩ := opsP_other h1 hs
        show wantB o _ _ = true
        rw [wantB_eq a b]
        exact stepP_want e2
      | succ i =>
        have := ih hs i (by simpa using hi) (fun k hk hik => by
          have := hl (k + 1) (by simp; omega) (by omega)
          simpa using this)
        simpa using this
theorem validB_iff {c : Conf} : validB c = true ↔ c.v ≠ [] ∧ risingB c.v = true ∧ risingB c.n = true ∧ risingB c.l = true ∧ ∀ x ∈ c.l, x ∉ c.v ∧ x ∉ c.n := by
  simp only [validB, Bool.and_eq_true, Bool.not_eq_true', decide_eq_false_iff_not, decide_eq_true_eq, List.all_eq_true, ← Bool.not_eq_true, hasB_iff, List.length_eq_zero_iff]
theorem rising_nil : risingB [] = true := rfl
/-- what a change that is begun comes to -/
theorem beginP_ok {c d : Conf} {ops : List OpP} (h : beginP c ops = (0, d)) :
    validB c = true ∧ c.n = [] ∧ validB d = true ∧ d.v = c.v ∧ ∃ next, next ≠ [] ∧ opsP c.v ops (c.v, c.l) = some (next, d.l) ∧ ((next = c.v ∧ d.n = []) ∨ (next ≠ c.v ∧ d.n = next)) := by
  unfold beginP at h
  split at h
  · cases h
  rename_i hv
  split at h
  · cases h
  rename_i hn
  split at h
  · cases h
  split at h
  · cases h
  rename_i s hs
  have hv : validB c = true := by simpa using hv
  obtain ⟨g1, g2, g3, g4, g5⟩ := validB_iff.1 hv
  have hn0 : c.n = [] := List.length_eq_zero_iff.1 (by omega)
  have hi : InvO c.v s := InvO.ops ⟨g2, g4, fun x hx => ⟨(g5 x hx).1, (g5 x hx).1⟩⟩ hs
  obtain ⟨s1, s2⟩ := s
  split at h
  · cases h
  rename_i h0
  have h0 : s1 ≠ [] := fun e => h0 (by simp [e])
  split at h
  · rename_i he
    obtain rfl : ⟨s1, [], s2⟩ = d := by simpa using h
    simp only at he
    subst he
    exact ⟨hv, hn0, validB_iff.2 ⟨h0, hi.a, rising_nil, hi.b, fun x hx => ⟨(hi.c x hx).1, by simp⟩⟩, rfl, _, h0, hs, Or.inl ⟨rfl, rfl⟩⟩
  · rename_i he
    obtain rfl : ⟨c.v, s1, s2⟩ = d := by simpa using h
    exact ⟨hv, hn0, validB_iff.2 ⟨g1, g2, hi.a, hi.b, fun x hx => ⟨(hi.c x hx).2, (hi.c x hx).1⟩⟩, rfl, _, h0, hs, Or.inr ⟨he, rfl⟩⟩
/-- the configuration that a change ends with -/
def lastP (d : Conf) : Conf := if 0 < d.n.length then (finishP d).2 else d
theorem finishP_ok {d : Conf} (h : validB d = true) (hn : 0 < d.n.length) : finishP d = (0, ⟨d.n, [], d.l⟩) := by
  rw [finishP, if_neg (by simp [h]; intro e; rw [e] at hn; simp at hn)]
theorem last_facts {c d : Conf} {ops : List OpP} (h : beginP c ops = (0, d)) : validB (lastP d) = true ∧ opsP c.v ops (c.v, c.l) = some ((lastP d).v, (lastP d).l) ∧ (lastP d).n = [] ∧ ((lastP d).v = d.n ∨ (d.n = [] ∧ lastP d = d)) := by
  obtain ⟨h1, h2, h3, h4, next, h5, h6, h7⟩ := beginP_ok h
  obtain ⟨g1, g2, g3, g4, g5⟩ := validB_iff.1 h3
  rcases h7 with ⟨e1, e2⟩ | ⟨e1, e2⟩
  · have e3 : lastP d = d := by rw [lastP, if_neg (by simp [e2])]
    rw [e3]
    refine ⟨h3, ?_, e2, Or.inr ⟨e2, rfl⟩⟩
    rw [h6, h4, e1]
  · have hp : 0 < d.n.length := by rw [e2]; exact List.length_pos_iff.2 h5
    have e3 : lastP d = ⟨d.n, [], d.l⟩ := by rw [lastP, if_pos hp, finishP_ok h3 hp]
    rw [e3]
    refine ⟨validB_iff.2 ⟨by rw [e2]; exact h5, g3, rising_nil, g4, fun x hx => ⟨(g5 x hx).2, by simp⟩⟩, ?_, rfl, Or.inl rfl⟩
    rw [h6, e2]
/-- two quorums meet -/
theorem meet_one {c : Conf} {a b : List Int} (ha : quorumB c a = true) (hb : quorumB c b = true) : meetB a b c.v = true := by
  simp only [quorumB, Bool.and_eq_true] at ha hb
  exact meet_of ha.1 hb.1 (fun x h => h)
theorem meet_begun {c d : Conf} {ops : List OpP} (h : beginP c ops = (0, d)) {a b : List Int} (ha : quorumB c a = true) (hb : quorumB d b = true) (m : List Int) : meetB a b (c.v ++ m) = true := by
  obtain ⟨h1, h2, h3, h4, _⟩ := beginP_ok h
  simp only [quorumB, Bool.and_eq_true] at ha hb
  rw [h4] at hb
  exact meet_of ha.1 hb.1 (fun x h => List.mem_append_left _ h)
theorem meet_last {c d : Conf} {ops : List OpP} (h : beginP c ops = (0, d)) {a b : List Int} (ha : quorumB d a = true) (hb : quorumB (lastP d) b = true) (m : List Int) : meetB a b (m ++ (lastP d).v) = true := by
  obtain ⟨h1, h2, h3, h4⟩ := last_facts h
  simp only [quorumB, Bool.and_eq_true] at ha hb
  refine meet_of (l := (lastP d).v) ?_ hb.1 (fun x h => List.mem_append_right _ h)
  rcases h4 with e | ⟨_, e⟩
  · rw [e]
    have := ha.2
    simp only [Bool.or_eq_true, decide_eq_true_eq] at this
    rcases this with h0 | h0
    · have : (lastP d).v = [] := by rw [e]; exact List.length_eq_zero_iff.1 h0
      exact absurd this (validB_iff.1 h1).1
    · exact h0
  · rw [e]; exact ha.1
end Go.Proofs.Ytgdmcbjlfnjhjaa
