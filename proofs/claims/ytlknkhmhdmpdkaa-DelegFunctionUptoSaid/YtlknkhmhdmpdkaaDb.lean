/-
  Bounds of keys, in plain Lean: edges, what a range makes of bounds, both ways.
-/
import Derived.Test.YtlknkhmhdmpdkaaDa
namespace Go.Proofs.Ytlknkhmhdmpdkaa.Dg
open Wm
set_option linter.unusedVariables false
set_option linter.unusedSimpArgs false

abbrev Rise (l : List (List UInt8)) : Prop := l.Pairwise (fun x y => lt x y = true)
theorem uniq : ∀ {a b : List (List UInt8)}, Rise a → Rise b → (∀ x, x ∈ a ↔ x ∈ b) → a = b
  | [], [], _, _, _ => rfl
  | [], y :: s, _, _, h => by have := (h y).2 (List.mem_cons_self); cases this
  | x :: r, [], _, _, h => by have := (h x).1 (List.mem_cons_self); cases this
  | x :: r, y :: s, ha, hb, h => by
    have ha' := List.pairwise_cons.1 ha
    have hb' := List.pairwise_cons.1 hb
    have e : x = y := by
      rcases List.mem_cons.1 ((h x).1 List.mem_cons_self) with e | e
      · exact e
      · rcases List.mem_cons.1 ((h y).2 List.mem_cons_self) with k | k
        · exact k.symm
        · have := lt_asym (hb'.1 x e)
          rw [ha'.1 y k] at this
          cases this
    subst e
    rw [uniq ha'.2 hb'.2 (fun z => ⟨fun hz => ?_, fun hz => ?_⟩)]
    · rcases List.mem_cons.1 ((h z).1 (List.mem_cons_of_mem _ hz)) with e | e
      · exact absurd e.symm (lt_ne (ha'.1 z hz))
      · exact e
    · rcases List.mem_cons.1 ((h z).2 (List.mem_cons_of_mem _ hz)) with e | e
      · exact absurd e.symm (lt_ne (hb'.1 z hz))
      · exact e

/-- how many texts lie at the head that are below x -/
def below (x : List UInt8) : List (List UInt8) → Nat
  | [] => 0
  | y :: r => if lt y x then below x r + 1 else 0
theorem below_le (x : List UInt8) : ∀ l, below x l ≤ l.length
  | [] => Nat.le_refl _
  | y :: r => by
    have := below_le x r
    unfold below
    split <;> simp <;> omega
theorem below_lo (x : List UInt8) : ∀ (l : List (List UInt8)) (i : Nat) (h : i < l.length), i < below x l → lt l[i] x = true
  | y :: r, 0, _, h => by
    unfold below at h
    split at h
    · assumption
    · omega
  | y :: r, i + 1, hl, h => by
    unfold below at h
    split at h
    · exact below_lo x r i (by simpa using hl) (by omega)
    · omega
theorem below_hi (x : List UInt8) : ∀ (l : List (List UInt8)) (h : below x l < l.length), lt l[below x l] x = false
  | y :: r, h => by
    by_cases e : lt y x = true
    · have e1 : below x (y :: r) = below x r + 1 := by show (if lt y x then below x r + 1 else 0) = _; rw [if_pos e]
      have h2 : below x r < r.length := by rw [e1] at h; simpa using h
      have := below_hi x r h2
      simp only [e1, List.getElem_cons_succ]
      exact this
    · have e1 : below x (y :: r) = 0 := by show (if lt y x then below x r + 1 else 0) = _; rw [if_neg e]
      simp only [e1, List.getElem_cons_zero]
      simpa using e
theorem below_of (x : List UInt8) : ∀ (l : List (List UInt8)) (k : Nat), k ≤ l.length → (∀ i (h : i < l.length), i < k → lt l[i] x = true) → (∀ (h : k < l.length), lt l[k] x = false) → below x l = k
  | [], k, hk, _, _ => by simp at hk; subst hk; rfl
  | y :: r, 0, _, _, h2 => by
    have := h2 (by simp)
    simp at this
    unfold below
    rw [if_neg (by rw [this]; decide)]
  | y :: r, k + 1, hk, h1, h2 => by
    have h0 := h1 0 (by simp) (by omega)
    simp at h0
    unfold below
    rw [if_pos h0, below_of x r k (by simpa using hk) (fun i h hi => by have := h1 (i + 1) (by simpa using h) (by omega); simpa using this) (fun h => by have := h2 (by simpa using h); simpa using this)]
/-- a text, put where it belongs, unless it lies there -/
def insertP (out : List (List UInt8)) (x : List UInt8) : List (List UInt8) :=
  if out[below x out]? = some x then out else out.take (below x out) ++ x :: out.drop (below x out)
def ins (x : List UInt8) : List (List UInt8) → List (List UInt8)
  | [] => [x]
  | y :: r => if lt y x then y :: ins x r else if y = x then y :: r else x :: y :: r
theorem insertP_ins (x : List UInt8) : ∀ out, insertP out x = ins x out
  | [] => rfl
  | y :: r => by
    have ih := insertP_ins x r
    unfold insertP ins
    unfold insertP at ih
    by_cases e : lt y x = true
    · rw [if_pos e, ← ih]
      have e1 : below x (y :: r) = below x r + 1 := by show (if lt y x then below x r + 1 else 0) = _; rw [if_pos e]
      rw [e1]
      simp only [List.getElem?_cons_succ, List.take_succ_cons, List.drop_succ_cons]
      split <;> simp
    · rw [if_neg e]
      have e1 : below x (y :: r) = 0 := by show (if lt y x then below x r + 1 else 0) = _; rw [if_neg e]
      rw [e1]
      simp
theorem mem_ins {x z : List UInt8} : ∀ {out}, z ∈ ins x out ↔ z = x ∨ z ∈ out
  | [] => by simp [ins]
  | y :: r => by
    unfold ins
    split
    · rw [List.mem_cons, mem_ins, List.mem_cons]
      constructor
      · rintro (h | h | h)
        · exact Or.inr (Or.inl h)
        · exact Or.inl h
        · exact Or.inr (Or.inr h)
      · rintro (h | h | h)
        · exact Or.inr (Or.inl h)
        · exact Or.inl h
        · exact Or.inr (Or.inr h)
    · split
      · rename_i e
        subst e
        rw [List.mem_cons]
        exact ⟨fun h => Or.inr h, fun h => h.elim (fun e => Or.inl e) (fun e => e)⟩
      · rw [List.mem_cons]
theorem rise_ins {x : List UInt8} : ∀ {out}, Rise out → Rise (ins x out)
  | [], _ => by simp [ins, Rise]
  | y :: r, h => by
    have h' := List.pairwise_cons.1 h
    unfold ins
    split
    · rename_i e
      exact List.pairwise_cons.2 ⟨fun z hz => (mem_ins.1 hz).elim (fun k => by rw [k]; exact e) (fun k => h'.1 z k), rise_ins h'.2⟩
    · split
      · exact h
      · rename_i e1 e2
        have e3 : lt x y = true := by
          cases k : lt x y
          · exact absurd (lt_tri (by simpa using e1) k) e2
          · rfl
        exact List.pairwise_cons.2 ⟨fun z hz => (List.mem_cons.1 hz).elim (fun k => by rw [k]; exact e3) (fun k => lt_trans e3 (h'.1 z k)), h⟩
/-- the bounds of a delegation and of a range, rising, each once -/
def allP (l : List BoundP) (fr up : List UInt8) : List (List UInt8) := fr :: up :: l.map BoundP.frm
def edgesP (l : List BoundP) (fr up : List UInt8) : List (List UInt8) := (allP l fr up).foldl insertP []
theorem fold_ins : ∀ (a : List (List UInt8)) {out}, Rise out → Rise (a.foldl insertP out) ∧ ∀ z, z ∈ a.foldl insertP out ↔ z ∈ a ∨ z ∈ out
  | [], out, h => ⟨h, fun z => by simp⟩
  | x :: r, out, h => by
    obtain ⟨h1, h2⟩ := fold_ins r (out := insertP out x) (by rw [insertP_ins]; exact rise_ins h)
    refine ⟨h1, fun z => ?_⟩
    rw [List.foldl_cons, h2, insertP_ins, mem_ins, List.mem_cons]
    constructor
    · rintro (h | h | h)
      · exact Or.inl (Or.inr h)
      · exact Or.inl (Or.inl h)
      · exact Or.inr h
    · rintro ((h | h) | h)
      · exact Or.inr (Or.inl h)
      · exact Or.inl h
      · exact Or.inr (Or.inr h)
theorem edges_rise (l : List BoundP) (fr up : List UInt8) : Rise (edgesP l fr up) := (fold_ins _ List.Pairwise.nil).1
theorem edges_mem (l : List BoundP) (fr up z : List UInt8) : z ∈ edgesP l fr up ↔ z = fr ∨ z = up ∨ ∃ b ∈ l, b.frm = z := by
  have := (fold_ins (allP l fr up) (out := []) List.Pairwise.nil).2 z
  unfold edgesP
  rw [this]
  simp [allP]

def within (x fr up : List UInt8) : Bool := !(lt x fr) && (up == [] || lt x up)
/-- a bound is kept, unless the one ahead of it names the same host -/
def keepIf (acc : List BoundP) (b : BoundP) : List BoundP := if acc.getLast?.map BoundP.host = some b.host then acc else acc ++ [b]
def compactP (l : List BoundP) : List BoundP := l.foldl keepIf []
def delegP (l : List BoundP) (fr up : List UInt8) (h : Int) : List BoundP := ((edgesP l fr up).map (fun x => (⟨x, if within x fr up then h else hostOf x l⟩ : BoundP))).foldl keepIf []
def rawP (l : List BoundP) (fr up : List UInt8) (h : Int) : List BoundP :=
  l.filter (fun b => lt b.frm fr) ++ ⟨fr, h⟩ :: ((if up = [] then [] else [⟨up, hostOf up l⟩]) ++ l.filter (fun b => up != [] && lt up b.frm))
def setP (l : List BoundP) (fr up : List UInt8) (h : Int) : List BoundP := if up ≠ [] ∧ lt fr up = false then l else compactP (rawP l fr up h)

theorem keepIf_last (acc : List BoundP) (b : BoundP) : (keepIf acc b).getLast?.map BoundP.host = some b.host := by
  unfold keepIf
  split
  · assumption
  · simp
theorem keep_same {h : Int} : ∀ (l : List BoundP) (acc : List BoundP), acc.getLast?.map BoundP.host = some h → (∀ b ∈ l, b.host = h) → l.foldl keepIf acc = acc
  | [], _, _, _ => rfl
  | b :: r, acc, h1, h2 => by
    have e : keepIf acc b = acc := by unfold keepIf; rw [if_pos (by rw [h1, h2 b List.mem_cons_self])]
    rw [List.foldl_cons, e]
    exact keep_same r acc h1 (fun c hc => h2 c (List.mem_cons_of_mem _ hc))
theorem map_filter_map {g : List UInt8 → BoundP} {p : List UInt8 → Bool} : ∀ l : List BoundP, (∀ b ∈ l, p b.frm = true → g b.frm = b) → ((l.map BoundP.frm).filter p).map g = l.filter (fun b => p b.frm)
  | [], _ => rfl
  | b :: r, h => by
    have ih := map_filter_map r (fun c hc => h c (List.mem_cons_of_mem _ hc))
    rw [List.map_cons, List.filter_cons, List.filter_cons]
    by_cases e : p b.frm = true
    · rw [if_pos e, if_pos e, List.map_cons, ih, h b List.mem_cons_self e]
    · rw [if_neg e, if_neg e, ih]
/-- the edges, laid out -/
def sortedE (l : List BoundP) (fr up : List UInt8) : List (List UInt8) :=
  (l.map BoundP.frm).filter (fun x => lt x fr) ++ fr :: ((l.map BoundP.frm).filter (fun x => lt fr x && (up == [] || lt x up)) ++ (if up = [] then [] else up :: (l.map BoundP.frm).filter (fun x => lt up x)))
theorem okB_rise {l : List BoundP} (h : okB l = true) : Rise (l.map BoundP.frm) := by
  rw [Rise, List.pairwise_iff_getElem]
  intro i j hi hj hij
  simp only [List.getElem_map]
  exact okB_lt h j hij (by simpa using hj)
theorem edges_eq {l : List BoundP} (h : okB l = true) {fr up : List UInt8} (hr : up = [] ∨ lt fr up = true) : edgesP l fr up = sortedE l fr up := by
  have hR := okB_rise h
  have h0 : [] ∈ l.map BoundP.frm := by
    rw [← okB_first h]
    exact List.mem_map.2 ⟨_, List.getElem_mem _, rfl⟩
  have hm : ∀ z, (∃ b ∈ l, b.frm = z) ↔ z ∈ l.map BoundP.frm := fun z => by rw [List.mem_map]
  refine uniq (edges_rise l fr up) ?_ (fun z => ?_)
  · unfold sortedE
    have hC : Rise (if up = [] then [] else up :: (l.map BoundP.frm).filter (fun x => lt up x)) := by
      split
      · exact List.Pairwise.nil
      · exact List.pairwise_cons.2 ⟨fun z hz => (List.mem_filter.1 hz).2, hR.filter _⟩
    have hI : Rise ((l.map BoundP.frm).filter (fun x => lt fr x && (up == [] || lt x up)) ++ (if up = [] then [] else up :: (l.map BoundP.frm).filter (fun x => lt up x))) := by
      refine List.pairwise_append.2 ⟨hR.filter _, hC, fun a ha b hb => ?_⟩
      have ha2 := (List.mem_filter.1 ha).2
      split at hb
      · cases hb
      · rename_i hu
        simp only [Bool.and_eq_true, Bool.or_eq_true, beq_iff_eq] at ha2
        have ha3 : lt a up = true := by rcases ha2.2 with e | e; exact absurd e hu; exact e
        rcases List.mem_cons.1 hb with e | e
        · rw [e]; exact ha3
        · exact lt_trans ha3 (List.mem_filter.1 e).2
    have hfr : ∀ b ∈ ((l.map BoundP.frm).filter (fun x => lt fr x && (up == [] || lt x up)) ++ (if up = [] then [] else up :: (l.map BoundP.frm).filter (fun x => lt up x))), lt fr b = true := by
      intro b hb
      rcases List.mem_append.1 hb with e | e
      · have := (List.mem_filter.1 e).2
        simp only [Bool.and_eq_true] at this
        exact this.1
      · split at e
        · cases e
        · rename_i hu
          have hfu : lt fr up = true := by rcases hr with k | k; exact absurd k hu; exact k
          rcases List.mem_cons.1 e with k | k
          · rw [k]; exact hfu
          · exact lt_trans hfu (List.mem_filter.1 k).2
    refine List.pairwise_append.2 ⟨hR.filter _, List.pairwise_cons.2 ⟨hfr, hI⟩, fun a ha b hb => ?_⟩
    have ha2 : lt a fr = true := (List.mem_filter.1 ha).2
    rcases List.mem_cons.1 hb with e | e
    · rw [e]; exact ha2
    · exact lt_trans ha2 (hfr b e)
  · rw [edges_mem, hm]
    unfold sortedE
    simp only [List.mem_append, List.mem_cons, List.mem_filter, Bool.and_eq_true, Bool.or_eq_true, beq_iff_eq]
    constructor
    · intro hz
      cases e1 : lt z fr
      · cases e2 : lt fr z
        · exact Or.inr (Or.inl (lt_tri e1 e2))
        · by_cases hu : up = []
          · refine Or.inr (Or.inr (Or.inl ⟨?_, ⟨rfl, Or.inl hu⟩⟩))
            rcases hz with k | k | k
            · exact absurd k.symm (lt_ne e2)
            · rw [k, hu]; exact h0
            · exact k
          · rw [if_neg hu]
            cases e3 : lt z up
            · cases e4 : lt up z
              · exact Or.inr (Or.inr (Or.inr (by rw [lt_tri e3 e4]; exact List.mem_cons_self)))
              · refine Or.inr (Or.inr (Or.inr (List.mem_cons_of_mem _ (List.mem_filter.2 ⟨?_, e4⟩))))
                rcases hz with k | k | k
                · exact absurd k.symm (lt_ne e2)
                · exact absurd k.symm (lt_ne e4)
                · exact k
            · refine Or.inr (Or.inr (Or.inl ⟨?_, ⟨rfl, Or.inr rfl⟩⟩))
              rcases hz with k | k | k
              · exact absurd k.symm (lt_ne e2)
              · exact absurd k (lt_ne e3)
              · exact k
      · refine Or.inl ⟨?_, rfl⟩
        rcases hz with k | k | k
        · exact absurd k (lt_ne e1)
        · rcases hr with r | r
          · rw [k, r]; exact h0
          · rw [k, lt_asym r] at e1; cases e1
        · exact k
    · rintro (⟨k, _⟩ | k | ⟨k, _⟩ | k)
      · exact Or.inr (Or.inr k)
      · exact Or.inl k
      · exact Or.inr (Or.inr k)
      · split at k
        · cases k
        · rcases List.mem_cons.1 k with e | e
          · exact Or.inr (Or.inl e)
          · exact Or.inr (Or.inr (List.mem_filter.1 e).1)
/-- both ways come to the same -/
theorem set_deleg {l : List BoundP} (h : okB l = true) {fr up : List UInt8} (hr : up = [] ∨ lt fr up = true) (host : Int) : compactP (rawP l fr up host) = delegP l fr up host := by
  unfold delegP
  rw [edges_eq h hr]
  unfold sortedE compactP rawP
  obtain ⟨g, hg⟩ : ∃ g : List UInt8 → BoundP, g = fun x => (⟨x, if within x fr up then host else hostOf x l⟩ : BoundP) := ⟨_, rfl⟩
  rw [← hg]
  have hwf : within fr fr up = true := by
    unfold within
    rw [lt_irr]
    rcases hr with r | r
    · simp [r]
    · simp [r]
  have gA : (((l.map BoundP.frm).filter (fun x => lt x fr)).map g) = l.filter (fun b => lt b.frm fr) := map_filter_map l (fun b hb hp => by
    rw [hg]
    have : within b.frm fr up = false := by unfold within; rw [hp]; rfl
    simp only [this]
    rw [if_neg (by decide), okB_hostIn h hb])
  have gF : g fr = ⟨fr, host⟩ := by rw [hg]; simp only [hwf]; rfl
  have gI : ∀ b ∈ (((l.map BoundP.frm).filter (fun x => lt fr x && (up == [] || lt x up))).map g), b.host = host := by
    intro b hb
    obtain ⟨x, hx, rfl⟩ := List.mem_map.1 hb
    have hx2 := (List.mem_filter.1 hx).2
    simp only [Bool.and_eq_true] at hx2
    have : within x fr up = true := by unfold within; rw [lt_asym hx2.1, hx2.2]; rfl
    rw [hg]
    simp only [this]
    rfl
  rw [List.map_append, List.map_cons, List.map_append, List.foldl_append, List.foldl_append, List.foldl_cons, List.foldl_cons, List.foldl_append, List.foldl_append, gA, gF]
  rw [keep_same ((List.filter (fun x => lt fr x && (up == [] || lt x up)) (l.map BoundP.frm)).map g) _ (keepIf_last _ ⟨fr, host⟩) gI]
  by_cases hu : up = []
  · rw [if_pos hu, if_pos hu]
    have e0 : l.filter (fun b => up != [] && lt up b.frm) = [] := List.filter_eq_nil_iff.2 (fun b _ => by simp [hu])
    rw [e0]
    rfl
  · rw [if_neg hu, if_neg hu]
    have e0 : l.filter (fun b => up != [] && lt up b.frm) = l.filter (fun b => lt up b.frm) := by
      refine List.filter_congr (fun b _ => ?_)
      simp [hu]
    have hno : ∀ x, lt up x = true ∨ x = up → within x fr up = false := by
      intro x hx
      unfold within
      have e1 : (up == []) = false := by simpa using hu
      have e2 : lt x up = false := by
        rcases hx with k | k
        · exact lt_asym k
        · rw [k, lt_irr]
      rw [e1, e2]
      simp
    have gU : g up = ⟨up, hostOf up l⟩ := by rw [hg]; simp only [hno up (Or.inr rfl)]; rfl
    have gC : (((l.map BoundP.frm).filter (fun x => lt up x)).map g) = l.filter (fun b => lt up b.frm) := map_filter_map l (fun b hb hp => by
      rw [hg]
      simp only [hno b.frm (Or.inl hp)]
      rw [if_neg (by decide), okB_hostIn h hb])
    rw [List.map_cons, gU, gC, e0]
    rfl

/-- has a host all keys of a range that holds some? both ways -/
def hasP (l : List BoundP) (fr up : List UInt8) (h : Int) : Bool :=
  if (up != [] && !(lt fr up)) || hostOf fr l != h then false else l.all (fun b => !(b.host != h && lt fr b.frm && within b.frm fr up))
def hasAllP (l : List BoundP) (fr up : List UInt8) (h : Int) : Bool := (edgesP l fr up).all (fun x => !(within x fr up && hostOf x l != h)) && (up == [] || lt fr up)
theorem has_eq {l : List BoundP} (h : okB l = true) (fr up : List UInt8) (host : Int) : hasP l fr up host = hasAllP l fr up host := by
  unfold hasP hasAllP
  by_cases hr : up = [] ∨ lt fr up = true
  · have e1 : (up == [] || lt fr up) = true := by rcases hr with r | r <;> simp [r]
    have e2 : (up != [] && !(lt fr up)) = false := by rcases hr with r | r <;> simp [r]
    have hwf : within fr fr up = true := by
      unfold within
      rw [lt_irr, e1]; rfl
    rw [e1, e2, Bool.and_true, Bool.false_or]
    by_cases hh : hostOf fr l = host
    · rw [if_neg (by simp [hh])]
      rw [Bool.eq_iff_iff, List.all_eq_true, List.all_eq_true]
      constructor
      · intro k x hx
        cases hw : within x fr up
        · rfl
        · have hx2 := (edges_mem l fr up x).1 hx
          rcases hx2 with e | e | ⟨b, hb, e⟩
          · subst e; simp [hh]
          · subst e
            have : x = fr := by
              unfold within at hw
              rw [lt_irr] at hw
              simp only [Bool.and_eq_true, Bool.or_false, beq_iff_eq, Bool.not_eq_true'] at hw
              obtain ⟨w1, w2⟩ := hw
              refine lt_tri w1 ?_
              rw [w2, lt_nil]
            subst this
            simp [hh]
          · subst e
            have k2 := k b hb
            rw [hw] at k2
            rw [okB_hostIn h hb]
            cases e3 : lt fr b.frm
            · have : b.frm = fr := by
                unfold within at hw
                simp only [Bool.and_eq_true, Bool.not_eq_true'] at hw
                exact lt_tri hw.1 e3
              have e4 : b.host = host := by rw [← okB_hostIn h hb, this, hh]
              simp [e4]
            · rw [e3] at k2
              simpa using k2
      · intro k b hb
        have k2 := k b.frm ((edges_mem l fr up b.frm).2 (Or.inr (Or.inr ⟨b, hb, rfl⟩)))
        rw [okB_hostIn h hb] at k2
        cases hw : within b.frm fr up
        · simp
        · rw [hw] at k2
          simp at k2
          simp [k2]
    · rw [if_pos (by simp [hh])]
      symm
      refine List.all_eq_false.2 ⟨fr, (edges_mem l fr up fr).2 (Or.inl rfl), ?_⟩
      rw [hwf]
      simp [hh]
  · have hu : up ≠ [] := fun e => hr (Or.inl e)
    have hl : lt fr up = false := by cases e : lt fr up; rfl; exact absurd (Or.inr e) hr
    have e1 : (up == []) = false := by simpa using hu
    rw [if_pos (by simp [hu, hl]), hl, e1]
    simp
end Go.Proofs.Ytlknkhmhdmpdkaa.Dg
