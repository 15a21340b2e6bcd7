/-
  A region that draws its order, whose last operation waits for all others: loads are taken first under a condition on the world that the last operation need not keep (beside Derived/OrdersHeld, on whose laws it leans).
-/
import Derived.Test.YtjlhlmnoomiblaaZ00
import Derived.OrdersHeld
namespace Go.Proofs.Ytjlhlmnoomiblaa.Mm
open Go.RowKit
set_option linter.unusedVariables false

section
variable {P : Program} {ops : Array Oper} {Q : Exit → Act → World → Prop} {md : Region.Mode} {S : World → Prop} {z : Nat}

/-- whatever comes up next; S holds behind each but the last -/
def AnyX (P : Program) (md : Region.Mode) (ops : Array Oper) (Q : Exit → Act → World → Prop) (S : World → Prop) (z : Nat) : Nat → Array Bool → Act → World → Prop
  | 0, l, a, w => Region.ready md ops l = [] ∧ Q .normal a w
  | n + 1, l, a, w => (Region.ready md ops l = [] → Q .normal a w) ∧ ∀ i ∈ Region.ready md ops l, wpOp P ops Q i (fun b v => (i = z ∨ S v) ∧ AnyX P md ops Q S z n (l.setIfInBounds i true) b v) a w
theorem AnyX.any : ∀ (n : Nat) (l : Array Bool) (a : Act) (w : World), AnyX P md ops Q S z n l a w → wpAny P md ops Q n l a w
  | 0, _, _, _, h => h
  | n + 1, _, _, _, h => ⟨h.1, fun i hi => wpOp_mono (fun b v hb => AnyX.any n _ b v hb.2) (h.2 i hi)⟩
/-- does the last wait for that one? -/
def waits (md : Region.Mode) (ops : Array Oper) (z i : Nat) : Bool := match ops[z]? with
  | some o => o.after.any fun e => Region.binds md e && e.on == i
  | none => false
theorem not_ready {l : Array Bool} {i : Nat} (h : waits md ops z i = true) (hi : l.getD i true = false) : z ∉ Region.ready md ops l := by
  intro hz
  obtain ⟨_, o, ho, hall⟩ := mem_ready.1 hz
  unfold waits at h
  rw [ho] at h
  obtain ⟨e, he, hb⟩ := Array.any_eq_true'.1 h
  simp only [Bool.and_eq_true, beq_iff_eq] at hb
  have h1 := hall e he hb.1
  rw [hb.2] at h1
  rcases Nat.lt_or_ge i l.size with h2 | h2
  · simp [h2] at hi h1
    rw [hi] at h1
    cases h1
  · simp [Array.getElem?_eq_none h2] at h1
theorem AnyX.first {i : Nat} {o : Oper} {v : Value} (hi : ops[i]? = some o) (hz : waits md ops z i = true) (hsel : ∀ (j : Nat) (o : Oper) cs b, ops[j]? = some o → o.op ≠ .select cs b) (hQ : ∀ c a w, Q (.panic c) (a.put o.dst v) w → Q (.panic c) a w) :
    ∀ (n : Nat) (l : Array Bool) (a : Act) (w : World), (∀ j oj, ops[j]? = some oj → j ≠ i → l.getD j true = false → (∀ e ∈ oj.after, Region.binds md e = true → e.on ≠ i) → o.apart ops oj = true) →
      i ∈ Region.ready md ops l → YieldsIf P ops S o v a → S w → AnyX P md ops Q S z n (l.setIfInBounds i true) (a.put o.dst v) w → AnyX P md ops Q S z (n + 1) l a w := by
  intro n
  induction n with
  | zero =>
    intro l a w _ hr hy hS H
    refine ⟨fun h => absurd hr (by rw [h]; simp), fun j hj => ?_⟩
    by_cases e : j = i
    · subst e; exact hy.wpOp hi hS ⟨Or.inr hS, H⟩
    · exact absurd (ready_mono hj e) (by rw [H.1]; simp)
  | succ n ih =>
    intro l a w hfree hr hy hS H
    refine ⟨fun h => absurd hr (by rw [h]; simp), fun j hj => ?_⟩
    by_cases e : j = i
    · subst e; exact hy.wpOp hi hS ⟨Or.inr hS, H⟩
    have hun := (mem_ready.1 hr).1
    have hjz : j ≠ z := fun h => not_ready hz hun (h ▸ hj)
    obtain ⟨hjun, oj, hoj, hall⟩ := mem_ready.1 hj
    have hno : ∀ e ∈ oj.after, Region.binds md e = true → e.on ≠ i := fun x hx hb hxi => by
      have h1 := hall x hx hb
      rw [hxi] at h1
      rcases Nat.lt_or_ge i l.size with h2 | h2
      · simp [h2] at hun h1
        rw [hun] at h1
        cases h1
      · simp [Array.getElem?_eq_none h2] at h1
    have h2 := wpOp_putIf hoj (hfree j oj hoj e hjun hno) (fun cs b => hsel i o cs b hi) (fun cs b => hsel j oj cs b hoj) hQ hy (H.2 j (ready_mono hj e))
    refine wpOp_mono (fun b v3 h3 => ?_) h2
    obtain ⟨hy3, hs3, hx3⟩ := h3
    have hS3 := hs3.resolve_left hjz
    refine ⟨Or.inr hS3, ih _ b v3 (fun k ok hk hki hku hkn => hfree k ok hk hki ?_ hkn) (ready_mono hr (Ne.symm e)) hy3 hS3 ?_⟩
    · by_cases hjk : j = k
      · rw [← hjk]; exact hjun
      · rw [getD_set_ne true hjk] at hku; exact hku
    · rw [Array.setIfInBounds_comm _ _ e]; exact hx3
theorem AnyX.take {i : Nat} {o : Oper} {v : Value} {n : Nat} {l : Array Bool} {a : Act} {w : World} (hi : ops[i]? = some o) (hz : waits md ops z i = true) (hs : Region.noSelect ops = true) (hf : Region.free md ops l i = true) (hr : (Region.ready md ops l).contains i = true)
    (hQ : ∀ c a w, Q (.panic c) (a.put o.dst v) w → Q (.panic c) a w) (hw : Region.wanted o (yielded ops a.tmps) = true) (hy : ∀ u, S u → (execOp a.eval o).run P u = .ok (.value v) u) (hS : S w)
    (h : AnyX P md ops Q S z n (l.setIfInBounds i true) (a.put o.dst v) w) : AnyX P md ops Q S z (n + 1) l a w :=
  AnyX.first hi hz (Region.noSelect_spec hs) hQ n l a w (Region.free_spec hi hf) (by simpa using hr) (Or.inl ⟨hw, hy⟩) hS h
/-- one alone may come up -/
theorem AnyX.one {i : Nat} {o : Oper} {n : Nat} {l : Array Bool} {a : Act} {w : World} (hr : Region.ready md ops l = [i]) (hi : ops[i]? = some o)
    (h : ∀ K : Act → World → Prop, Hid (∀ b v, (i = z ∨ S v) ∧ AnyX P md ops Q S z n (l.setIfInBounds i true) b v → K b v) → if Region.wanted o (yielded ops a.tmps) = true then Oper.wp P o a w K Q else K (a.put o.dst undef) w) : AnyX P md ops Q S z (n + 1) l a w := by
  refine ⟨fun h0 => absurd h0 (by rw [hr]; simp), fun j hj => ?_⟩
  rw [hr] at hj
  obtain rfl := List.mem_singleton.1 hj
  exact wpOp_step hi (fun K hK => h K hK)
theorem AnyX.done {l : Array Bool} {a : Act} {w : World} (hr : Region.ready md ops l = []) (h : Q .normal a w) : ∀ n, AnyX P md ops Q S z n l a w
  | 0 => ⟨hr, h⟩
  | _ + 1 => ⟨fun _ => h, by rw [hr]; simp⟩
theorem AnyX.begin (z : Nat) (S : World → Prop) {id : Nat} {a : Act} {w : World} (hm : P.follows .mixedOrders = true) (h : AnyX P .any ops Q S z ops.size (Array.replicate ops.size false) a w.drew) : (Code.region id ops true).wp P Q a w :=
  wp_region_any hm (AnyX.any _ _ _ _ h)
end
end Go.Proofs.Ytjlhlmnoomiblaa.Mm
