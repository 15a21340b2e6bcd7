/-
  From a law's walk to its row: what every law here shares: it answers true and leaves all old memory alone.
-/
import Derived.Test.YtnmlkoidmacinaaDoorMm
import Derived.ProofKit
import Derived.SizedLaws
namespace Go.Proofs.YtnmlkoidmacinaaDoor
open Go.ChangeShapes Go.WideShapes Go.ChangeAt Go.RowKit Mm

theorem law_own : ownKnob Tryd.prog.godebug = none := by kernel_rfl
theorem law_laidOut : laidOutB Tryd.prog = true := by kernel_rfl

theorem trodAll_stays {H : Type} {P : Program} (hl : laidOutB P = true) {enc : TypeId × Value → H} {W W' : World} (hb : Below W.heap.size W W') (ts : List TypeId) : ∀ {vs : List Value} {ds : List (DataW H)} {ps : List MemPlace},
    (ts.all fun t => P.readableRec t && decide (t < P.types.size)) = true → DataW.TrodAll enc P W 0 (fun _ => true) true ts vs ds ps → (∀ x ∈ ps, x.block < W.heap.size) →
    DataW.TrodAll enc P W' 0 (fun b => decide (b < W.heap.size)) true ts vs ds ps := by
  induction ts with
  | nil =>
    intro vs ds ps _ h _
    cases vs <;> cases ds <;> exact h
  | cons t ts ih =>
    intro vs ds ps ht h hlt
    obtain ⟨v, vs', d, ds', p, q, rfl, rfl, rfl, h1, h2⟩ := trodAll_cons h
    rw [List.all_cons, Bool.and_eq_true, Bool.and_eq_true] at ht
    exact ⟨p, q, Below.trod hl ht.1.1 (of_decide_eq_true ht.1.2) h1 hb (fun x hx => hlt x (List.mem_append_left _ hx)),
      ih ht.2 h2 (fun x hx => hlt x (List.mem_append_right _ hx)), rfl⟩

theorem law_post {H : Type} {enc : TypeId × Value → H} {f : Func} {s : ChangeSpec} {W W' : World} {args : Array Value} {ds : List (DataW H)} {before : List MemPlace}
    (hts : (f.params.toList.all fun t => Tryd.prog.readableRec t && decide (t < Tryd.prog.types.size)) = true) (hr : f.resultTypes = #[4]) (hv : s.vars = [])
    (hres : (s.fn H (ds ++ [])).results = [.lit (.bool true)]) (hargs : (s.fn H (ds ++ [])).args = ds) (hvs : (s.fn H (ds ++ [])).vars = [])
    (hW : DataW.Whole enc Tryd.prog f.params.toList s.vars false W args.toList ds [] before) (hb : Below W.heap.size W W') :
    s.post enc Tryd.prog f false true false false W args (.bool true) W' := by
  have hW' := hW
  obtain ⟨p, q, hA, hV, rfl, _, _⟩ := hW
  rw [hv] at hV
  obtain rfl : q = [] := hV
  refine ⟨ds, [], p ++ [], [], p, [], hW', ?_, ?_, ?_, hb.frame _, fun h => by cases h⟩
  · rw [hr, hres]
    exact ChangeShapes.trodAll_mk1 (shut_bool Tryd.underlying4 _)
  · rw [hargs]
    exact trodAll_stays law_laidOut hb _ hts hA (fun x hx => by simpa using hW'.lt x (by simp [hx]))
  · rw [hv, hvs]; rfl

/-- an argument that is a slice of integers -/
theorem open_Ints {H : Type} {P : Program} {enc : TypeId × Value → H} {W : World} {base b0 : Nat} {sp : Nat → Bool} {hd : Bool} {r : Reach} {t e : TypeId} {v : Value} {d : DataW H} {ps : List MemPlace} (ht : P.underlying t = some (.slice e)) (he : P.underlying e = some (.int .i64)) (hc : P.cellsOf e = 1)
    (hval : Value.okWide P W r b0 t v) (h : DataW.Trod enc P W base sp hd t v d ps) : ∃ L : List Int, Ints W v L ∧ ∀ n ∈ L, -9223372036854775808 ≤ n ∧ n ≤ 9223372036854775807 := by
  obtain ⟨a0, len, cap, rfl⟩ := okWide_slice ht hval
  obtain ⟨fuel, hf⟩ := h
  rcases open_ints ht he hc hf with ⟨hcs, _⟩ | ⟨a, len', cap', zs, hcs, _, hl, hm, hz, _, hcell, hwz⟩
  · simp [Value.cells] at hcs
    obtain ⟨rfl, rfl, rfl⟩ := hcs
    exact ⟨[], ⟨none, 0, rfl, fun h => absurd rfl h, Nat.zero_le _⟩, fun n h => by cases h⟩
  · simp [Value.cells] at hcs
    obtain ⟨rfl, rfl, rfl⟩ := hcs
    have hle : len ≤ zs.length := by rw [hz]; split <;> omega
    refine ⟨zs.take len, ⟨some a, cap, by simp [Nat.min_eq_left hle], fun hne => ?_, by simp; unfold maxLen at *; omega⟩, fun n hn => ?_⟩
    · have h0 : 0 < len := by
        rcases Nat.eq_zero_or_pos len with h0 | h0
        · subst h0; simp at hne
        · exact h0
      obtain ⟨b, off, spot⟩ := a
      have hspot : spot = none := by simpa [Addr.add] using World.cell?_spot (hcell 0 (by omega))
      subst hspot
      refine ⟨b, off, rfl, fun j x hj => ?_⟩
      have hj2 : j < (zs.take len).length := (List.getElem?_eq_some_iff.1 hj).1
      simp at hj2
      have h1 := hcell j (by omega)
      have hadd : (⟨b, off, none⟩ : Addr).add j = ⟨b, off + j, none⟩ := by unfold Addr.add; split <;> simp_all
      rw [hadd] at h1
      rw [h1]
      have hx : zs[j]? = some x := by rw [List.getElem?_take] at hj; rw [if_pos (by omega)] at hj; exact hj
      rw [List.getD_eq_getElem?_getD, hx]; rfl
    · have := hwz n (List.mem_of_mem_take hn)
      simpa [Lit.wf, IntKind.min, IntKind.max, IntKind.signed, IntKind.bits] using this

end Go.Proofs.YtnmlkoidmacinaaDoor
