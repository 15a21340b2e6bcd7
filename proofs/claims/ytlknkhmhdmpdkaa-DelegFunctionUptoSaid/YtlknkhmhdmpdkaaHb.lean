/-
  Bounds of keys, in plain Lean: a range given to a host; bounds given anew to whom they name.
-/
import Derived.Test.YtlknkhmhdmpdkaaHa
namespace Go.Proofs.Ytlknkhmhdmpdkaa.Dg
open Wm
set_option linter.unusedVariables false
set_option linter.unusedSimpArgs false

def good (b : BoundP) : Prop := 1 ≤ b.host ∧ b.host ≤ 9 ∧ b.frm.length ≤ 16
theorem okB_mk {l : List BoundP} (h1 : ∀ b ∈ l, good b) (h2 : l.head?.map BoundP.frm = some []) (h3 : Rise (l.map BoundP.frm)) (h4 : Diff l) : okB l = true := by
  have h0 : 0 < l.length := by
    cases l with
    | nil => cases h2
    | cons a r => simp
  rw [okB_all (fun j hj => ?_), decide_eq_true h0]
  have hg := h1 _ (List.getElem_mem hj)
  obtain ⟨g1, g2, g3⟩ := hg
  cases j with
  | zero =>
    rw [okAt_zero hj]
    rw [List.head?_eq_getElem?, List.getElem?_eq_getElem hj] at h2
    have : l[0].frm = [] := by simpa using h2
    simp only [Bool.and_eq_true, decide_eq_true_eq, beq_iff_eq]
    exact ⟨⟨⟨by omega, g2⟩, g3⟩, this⟩
  | succ i =>
    rw [okAt_succ hj, decide_eq_true g1, decide_eq_true g2, decide_eq_true g3]
    have hl : lt (l[i]'(by omega)).frm l[i + 1].frm = true := by
      have := List.pairwise_iff_getElem.1 h3 i (i + 1) (by simp; omega) (by simpa using hj) (by omega)
      simpa using this
    rw [hl]
    have := h4 i hj
    simp [this]
theorem okB_good {l : List BoundP} (h : okB l = true) : ∀ b ∈ l, good b := by
  intro b hb
  obtain ⟨j, hj, rfl⟩ := List.getElem_of_mem hb
  have := okB_get h hj
  cases j with
  | zero =>
    rw [okAt_zero hj] at this
    simp only [Bool.and_eq_true, decide_eq_true_eq] at this
    exact ⟨this.1.1.1, this.1.1.2, this.1.2⟩
  | succ i =>
    rw [okAt_succ hj] at this
    simp only [Bool.and_eq_true, decide_eq_true_eq] at this
    exact ⟨this.1.1.1, this.1.1.2, this.1.2⟩
theorem okB_diff {l : List BoundP} (h : okB l = true) : Diff l := by
  intro i hi
  have := okB_get h hi
  rw [okAt_succ hi] at this
  simp only [Bool.and_eq_true, bne_iff_ne] at this
  exact this.2.2
theorem place_of {l : List BoundP} (h : okB l = true) (key : List UInt8) : Place l key (below key (l.map BoundP.frm)) := by
  have hlen : (l.map BoundP.frm).length = l.length := List.length_map _
  refine ⟨by rw [← hlen]; exact below_le _ _, fun i hi hb => ?_, fun i hi hb => ?_⟩
  · have := below_lo key (l.map BoundP.frm) i (by omega) hb
    simpa using this
  · have hk : below key (l.map BoundP.frm) < (l.map BoundP.frm).length := by omega
    have h1 := below_hi key (l.map BoundP.frm) hk
    rw [List.getElem_map] at h1
    rcases Nat.lt_or_ge (below key (l.map BoundP.frm)) i with h2 | h2
    · cases e : lt l[i].frm key
      · rfl
      · have := lt_trans (okB_lt h i h2 hi) e
        rw [h1] at this
        cases this
    · have : i = below key (l.map BoundP.frm) := by omega
      subst this
      exact h1
theorem host_good {l : List BoundP} (h : okB l = true) (key : List UInt8) : 1 ≤ hostOf key l ∧ hostOf key l ≤ 9 := by
  rcases (place_of h key).at h with ⟨hk, _, e⟩ | ⟨_, hk, _, e⟩
  · rw [e]
    have := okB_good h _ (List.getElem_mem hk)
    exact ⟨this.1, this.2.1⟩
  · rw [e]
    have := okB_good h _ (List.getElem_mem hk)
    exact ⟨this.1, this.2.1⟩
theorem raw_head {l : List BoundP} (h : okB l = true) (fr up : List UInt8) (host : Int) : (rawP l fr up host).head?.map BoundP.frm = some [] := by
  have h0 := okB_pos h
  have hf := okB_first h
  cases l with
  | nil => simp at h0
  | cons a r =>
    have hf' : a.frm = [] := hf
    unfold rawP
    by_cases e : fr = []
    · have e0 : (a :: r).filter (fun b => lt b.frm fr) = [] := List.filter_eq_nil_iff.2 (fun b _ => by rw [e, lt_nil]; decide)
      rw [e0, e]; rfl
    · rw [List.filter_cons, if_pos (by rw [hf']; exact nil_lt e), List.cons_append]
      show some a.frm = _
      rw [hf']
theorem ok_set {l : List BoundP} (h : okB l = true) {fr up : List UInt8} {host : Int} (h1 : 1 ≤ host) (h2 : host ≤ 9) (h3 : fr.length ≤ 16) (h4 : up.length ≤ 16) : okB (setP l fr up host) = true := by
  unfold setP
  split
  · exact h
  · rename_i hc
    have hr : up = [] ∨ lt fr up = true := by
      by_cases hu : up = []
      · exact Or.inl hu
      · right
        cases e : lt fr up
        · exact absurd ⟨hu, e⟩ hc
        · rfl
    have hsub := compact_sub (rawP l fr up host)
    refine okB_mk (fun b hb => ?_) (by rw [compact_head]; exact raw_head h fr up host) ((rise_raw h hr host).sublist (hsub.map _)) (diff_compact _)
    have hb2 := hsub.subset hb
    unfold rawP at hb2
    rcases List.mem_append.1 hb2 with k | k
    · exact okB_good h _ (List.mem_filter.1 k).1
    · rcases List.mem_cons.1 k with k | k
      · subst k; exact ⟨h1, h2, h3⟩
      · rcases List.mem_append.1 k with k | k
        · split at k
          · cases k
          · have : b = ⟨up, hostOf up l⟩ := by simpa using k
            subst this
            exact ⟨(host_good h up).1, (host_good h up).2, h4⟩
        · exact okB_good h _ (List.mem_filter.1 k).1

/-- a key has the host to which a range with it was given last -/
theorem host_set {l : List BoundP} (h : okB l = true) (fr up : List UInt8) (host : Int) (key : List UInt8) : hostOf key (setP l fr up host) = if within key fr up then host else hostOf key l := by
  unfold setP
  split
  · rename_i hc
    rw [if_neg]
    unfold within
    intro hw
    simp only [Bool.and_eq_true, Bool.or_eq_true, Bool.not_eq_true', beq_iff_eq] at hw
    rcases hw.2 with k | k
    · exact hc.1 k
    · have := le_lt hw.1 k
      rw [hc.2] at this
      cases this
  · rename_i hc
    have hr : up = [] ∨ lt fr up = true := by
      by_cases hu : up = []
      · exact Or.inl hu
      · right
        cases e : lt fr up
        · exact absurd ⟨hu, e⟩ hc
        · rfl
    rw [host_compact key _ (rise_raw h hr host)]
    have hnot : ∀ b : BoundP, lt key b.frm = true → le b.frm key = false := fun b hb => by rw [le_not, hb]; rfl
    unfold rawP hostOf
    rw [hostUp_app, hostUp_cons, hostUp_app]
    show hostUp key (hostUp key (if le fr key then host else _) _) _ = _
    cases e1 : lt key fr
    · rw [if_pos (by rw [le_not, e1]; rfl)]
      by_cases hu : up = []
      · rw [if_pos hu]
        have e0 : l.filter (fun b => up != [] && lt up b.frm) = [] := List.filter_eq_nil_iff.2 (fun b _ => by simp [hu])
        rw [e0, if_pos (by unfold within; rw [e1]; simp [hu])]
        rfl
      · have e0 : l.filter (fun b => up != [] && lt up b.frm) = l.filter (fun b => lt up b.frm) := List.filter_congr (fun b _ => by simp [hu])
        rw [if_neg hu, e0, hostUp_cons]
        show hostUp key (hostUp key (if le up key then hostUp up 0 l else host) []) _ = _
        cases e2 : lt key up
        · rw [if_pos (by rw [le_not, e2]; rfl), if_neg (by unfold within; rw [e2]; simp [hu])]
          show hostUp key (hostUp up 0 l) _ = _
          have hs := rise_split (up := up) (okB_rise h)
          have e3 : hostUp up 0 l = hostUp key 0 (l.filter (fun b => !(lt up b.frm))) := by
            rw [← hostUp_filter (p := fun b => !(lt up b.frm)) l 0 (fun b _ hb => by rw [le_not, show lt up b.frm = true from by simpa using hb]; rfl)]
            refine hostUp_all _ _ (fun b hb => ?_)
            have hb2 : le b.frm up = true := by rw [le_not]; exact (List.mem_filter.1 hb).2
            exact ⟨hb2, le_trans hb2 (by rw [le_not, e2]; rfl)⟩
          rw [e3, ← hostUp_app, ← hs]
        · have hw : within key fr up = true := by unfold within; rw [e1, e2]; simp
          rw [hw, if_neg (show ¬ le up key = true from by rw [le_not, e2]; decide)]
          show hostUp key host _ = host
          have e4 := hostUp_filter (key := key) (p := fun _ => false) (l.filter (fun b => lt up b.frm)) host (fun b hb _ => hnot b (lt_trans e2 (List.mem_filter.1 hb).2))
          rw [← e4]
          have : (l.filter (fun b => lt up b.frm)).filter (fun _ => false) = [] := List.filter_eq_nil_iff.2 (fun b _ => by decide)
          rw [this]
          rfl
    · have hw : within key fr up = false := by unfold within; rw [e1]; simp
      rw [hw, if_neg (show ¬ le fr key = true from by rw [le_not, e1]; decide)]
      have e5 : hostUp key 0 (l.filter (fun b => lt b.frm fr)) = hostUp key 0 l := hostUp_filter l 0 (fun b _ hb => hnot b (lt_le e1 hb))
      rw [e5]
      have hrest : ∀ b ∈ ((if up = [] then [] else [⟨up, hostOf up l⟩]) ++ l.filter (fun b => up != [] && lt up b.frm) : List BoundP), lt key b.frm = true := by
        intro b hb
        have hfu : up ≠ [] → lt key up = true := fun hu => by rcases hr with k | k; exact absurd k hu; exact lt_trans e1 k
        rcases List.mem_append.1 hb with k | k
        · split at k
          · cases k
          · rename_i hu
            have : b = ⟨up, hostOf up l⟩ := by simpa using k
            subst this
            exact hfu hu
        · have k2 := (List.mem_filter.1 k).2
          rw [Bool.and_eq_true] at k2
          exact lt_trans (hfu (by simpa using k2.1)) k2.2
      have e4 := hostUp_filter (key := key) (p := fun _ => false) ((if up = [] then [] else [⟨up, hostOf up l⟩]) ++ l.filter (fun b => up != [] && lt up b.frm)) (hostUp key 0 l) (fun b hb _ => hnot b (hrest b hb))
      rw [← hostUp_app]
      show hostUp key (hostUp key 0 l) ((if up = [] then [] else [⟨up, hostOf up l⟩]) ++ l.filter (fun b => up != [] && lt up b.frm)) = hostUp key 0 l
      rw [← e4]
      have : (((if up = [] then [] else [⟨up, hostOf up l⟩]) ++ l.filter (fun b => up != [] && lt up b.frm)) : List BoundP).filter (fun _ => false) = [] := List.filter_eq_nil_iff.2 (fun b _ => by decide)
      rw [this]
      rfl

/-- the end of a bound's range -/
def endOf (l : List BoundP) (i : Nat) : List UInt8 := match l[i + 1]? with | some b => b.frm | none => []
theorem filter_take {p : BoundP → Bool} {l : List BoundP} (i : Nat) (h1 : ∀ b ∈ l.take i, p b = true) (h2 : ∀ b ∈ l.drop i, ¬ p b = true) : l.filter p = l.take i := by
  have : (l.take i ++ l.drop i).filter p = l.take i := by rw [List.filter_append, List.filter_eq_self.2 h1, List.filter_eq_nil_iff.2 h2, List.append_nil]
  rwa [List.take_append_drop] at this
theorem filter_drop {p : BoundP → Bool} {l : List BoundP} (i : Nat) (h1 : ∀ b ∈ l.take i, ¬ p b = true) (h2 : ∀ b ∈ l.drop i, p b = true) : l.filter p = l.drop i := by
  have : (l.take i ++ l.drop i).filter p = l.drop i := by rw [List.filter_append, List.filter_eq_self.2 h2, List.filter_eq_nil_iff.2 h1, List.nil_append]
  rwa [List.take_append_drop] at this
theorem filter_lo {l : List BoundP} (h : okB l = true) {i : Nat} (hi : i < l.length) : l.filter (fun b => lt b.frm l[i].frm) = l.take i := by
  refine filter_take i (fun b hb => ?_) (fun b hb => ?_)
  · obtain ⟨j, hj, rfl⟩ := List.getElem_of_mem hb
    rw [List.length_take] at hj
    rw [List.getElem_take]
    exact okB_lt h i (by omega) hi
  · obtain ⟨j, hj, rfl⟩ := List.getElem_of_mem hb
    rw [List.length_drop] at hj
    rw [List.getElem_drop]
    rcases Nat.eq_zero_or_pos j with h0 | h0
    · subst h0
      simp [lt_irr]
    · rw [lt_asym (okB_lt h (i + j) (by omega) (by omega))]
      decide
theorem filter_hi {l : List BoundP} (h : okB l = true) {i : Nat} (hi : i < l.length) : l.filter (fun b => lt l[i].frm b.frm) = l.drop (i + 1) := by
  refine filter_drop (i + 1) (fun b hb => ?_) (fun b hb => ?_)
  · obtain ⟨j, hj, rfl⟩ := List.getElem_of_mem hb
    rw [List.length_take] at hj
    rw [List.getElem_take]
    rcases Nat.lt_or_ge j i with h0 | h0
    · rw [lt_asym (okB_lt h i h0 hi)]; decide
    · have : j = i := by omega
      subst this
      simp [lt_irr]
  · obtain ⟨j, hj, rfl⟩ := List.getElem_of_mem hb
    rw [List.length_drop] at hj
    rw [List.getElem_drop]
    exact okB_lt h _ (by omega) (by omega)
theorem end_range {l : List BoundP} (h : okB l = true) {i : Nat} (hi : i < l.length) : endOf l i = [] ∨ lt l[i].frm (endOf l i) = true := by
  unfold endOf
  rcases Nat.lt_or_ge (i + 1) l.length with h1 | h1
  · rw [List.getElem?_eq_getElem h1]
    exact Or.inr (okB_step h h1)
  · rw [List.getElem?_eq_none h1]
    exact Or.inl rfl
theorem raw_same {l : List BoundP} (h : okB l = true) {i : Nat} (hi : i < l.length) : rawP l l[i].frm (endOf l i) l[i].host = l := by
  unfold rawP
  rw [filter_lo h hi]
  have hb : (⟨l[i].frm, l[i].host⟩ : BoundP) = l[i] := rfl
  rw [hb]
  rcases Nat.lt_or_ge (i + 1) l.length with h1 | h1
  · have e : endOf l i = l[i + 1].frm := by unfold endOf; rw [List.getElem?_eq_getElem h1]
    have hne : l[i + 1].frm ≠ [] := by
      intro e2
      have := okB_step h h1
      rw [e2, lt_nil] at this
      cases this
    rw [e, if_neg hne]
    have e0 : l.filter (fun b => l[i + 1].frm != [] && lt l[i + 1].frm b.frm) = l.filter (fun b => lt l[i + 1].frm b.frm) := List.filter_congr (fun b _ => by simp [hne])
    rw [e0, filter_hi h h1, okB_hostOf h h1]
    have hb2 : (⟨l[i + 1].frm, l[i + 1].host⟩ : BoundP) = l[i + 1] := rfl
    rw [hb2, List.singleton_append, ← List.drop_eq_getElem_cons h1, ← List.drop_eq_getElem_cons hi]
    exact List.take_append_drop _ _
  · have e : endOf l i = [] := by unfold endOf; rw [List.getElem?_eq_none h1]
    rw [e, if_pos rfl]
    have e0 : l.filter (fun b => ([] : List UInt8) != [] && lt [] b.frm) = [] := List.filter_eq_nil_iff.2 (fun b _ => by simp)
    rw [e0, List.append_nil]
    have : l.drop i = [l[i]] := by rw [List.drop_eq_getElem_cons hi, List.drop_of_length_le h1]
    rw [← this]
    exact List.take_append_drop _ _
theorem set_same {l : List BoundP} (h : okB l = true) {i : Nat} (hi : i < l.length) : setP l l[i].frm (endOf l i) l[i].host = l := by
  unfold setP
  rw [if_neg, raw_same h hi, compact_diff _ (okB_diff h)]
  rintro ⟨h1, h2⟩
  rcases end_range h hi with k | k
  · exact h1 k
  · rw [h2] at k; cases k
theorem has_same {l : List BoundP} (h : okB l = true) {i : Nat} (hi : i < l.length) : hasP l l[i].frm (endOf l i) l[i].host = true := by
  unfold hasP
  rw [if_neg]
  · refine List.all_eq_true.2 (fun b hb => ?_)
    obtain ⟨j, hj, rfl⟩ := List.getElem_of_mem hb
    cases hw : within l[j].frm l[i].frm (endOf l i)
    · simp
    · cases hl : lt l[i].frm l[j].frm
      · simp
      · exfalso
        have hij : i < j := by
          rcases Nat.lt_or_ge i j with k | k
          · exact k
          · rcases Nat.lt_or_ge j i with k2 | k2
            · rw [lt_asym (okB_lt h i k2 hi)] at hl; cases hl
            · have : i = j := by omega
              subst this
              rw [lt_irr] at hl; cases hl
        have h1 : i + 1 < l.length := by omega
        have e : endOf l i = l[i + 1].frm := by unfold endOf; rw [List.getElem?_eq_getElem h1]
        have hne : l[i + 1].frm ≠ [] := by
          intro e2
          have := okB_step h h1
          rw [e2, lt_nil] at this
          cases this
        unfold within at hw
        rw [e] at hw
        simp only [Bool.and_eq_true, Bool.or_eq_true, beq_iff_eq] at hw
        rcases hw.2 with k | k
        · exact hne k
        · rcases Nat.lt_or_ge (i + 1) j with k2 | k2
          · rw [lt_asym (okB_lt h j k2 hj)] at k; cases k
          · have : j = i + 1 := by omega
            subst this
            rw [lt_irr] at k; cases k
  · rw [okB_hostOf h hi]
    rcases end_range h hi with k | k
    · simp [k]
    · simp [k]
end Go.Proofs.Ytlknkhmhdmpdkaa.Dg
