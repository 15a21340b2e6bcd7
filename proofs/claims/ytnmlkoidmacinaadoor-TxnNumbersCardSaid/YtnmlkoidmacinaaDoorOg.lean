/-
  Opening arguments: slices of plain records, structs, field by field. Over any program.
-/
import Derived.Test.YtnmlkoidmacinaaDoorLift
import Derived.Test.YtnmlkoidmacinaaDoorRep
import Derived.Test.YtnmlkoidmacinaaDoorWm
namespace Go.Proofs.YtnmlkoidmacinaaDoor.Opn
open Go.ChangeShapes Go.WideShapes Go.ChangeAt Go.RowKit Wm Mm
set_option linter.unusedVariables false

theorem str_of (s : ByteArray) : Value.string s = str s.data.toList := by
  cases s with | mk d => rfl
theorem some_of {α : Type} {l : List α} {i : Nat} (h : i < l.length) : ∃ x, l[i]? = some x := ⟨_, List.getElem?_eq_getElem h⟩
theorem weights_at {H : Type} {P : Program} {ts : List TypeId} {ds : List (DataW H)} (h : (DataW.weightsEach P ts ds).all (· ≤ reachBytes) = true) {j : Nat} {t : TypeId} {d : DataW H} (ht : ts[j]? = some t) (hd : ds[j]? = some d) : (DataW.weights P t d).all (· ≤ reachBytes) = true := by
  rw [List.all_eq_true] at h ⊢
  intro k hk
  exact h k (DataW.weights_mem_each ht hd k hk)
/-- what can be read as data of this type is such a thing; and, if all of it fits, it is no greater than this -/
def Opens {α : Type} (P : Program) (t : TypeId) (R : World → List Value → α → Prop) (F : α → Prop) : Prop :=
  ∀ ⦃H : Type⦄ (enc : TypeId × Value → H) (w : World) (base : Nat) (spare : Nat → Bool) (held : Bool) (n : Nat) (cs : List Value) (x : DataW H × List MemPlace),
    DataW.trod enc P w base spare held n t cs = some x → ∃ y, R w cs y ∧ ((DataW.weights P t x.1).all (· ≤ reachBytes) = true → F y)
theorem Opens.imp {α : Type} {P : Program} {t : TypeId} {R R' : World → List Value → α → Prop} {F F' : α → Prop} (h : Opens P t R F) (hR : ∀ w cs y, R w cs y → R' w cs y) (hF : ∀ y, F y → F' y) : Opens P t R' F' := by
  intro H enc w base spare held n cs x hx
  obtain ⟨y, h1, h2⟩ := h enc w base spare held n cs x hx
  exact ⟨y, hR _ _ _ h1, fun hw => hF _ (h2 hw)⟩
theorem opens_int {P : Program} {t : TypeId} (ht : P.underlying t = some (.int .i64)) : Opens P t (fun _ cs (a : Int) => cs = [.int .i64 a]) (fun a => -9223372036854775808 ≤ a ∧ a ≤ 9223372036854775807) := by
  intro H enc w base spare held n cs x hx
  obtain ⟨a, ha, _, hwf⟩ := DataW.trod_int ht hx
  refine ⟨a, ha, fun _ => ?_⟩
  simpa [Lit.wf, IntKind.min, IntKind.max, IntKind.signed, IntKind.bits] using hwf
theorem opens_str {P : Program} {t : TypeId} (ht : P.underlying t = some .string) : Opens P t (fun _ cs (a : List UInt8) => cs = [str a]) (fun a => a.length ≤ reachBytes) := by
  intro H enc w base spare held n cs x hx
  obtain ⟨a, ha, hd, _⟩ := DataW.trod_string ht hx
  refine ⟨a.data.toList, by rw [ha, str_of a], fun hw => ?_⟩
  rw [hd] at hw
  simpa [DataW.weights] using hw
theorem opens_bool {P : Program} {t : TypeId} (ht : P.underlying t = some .bool) : Opens P t (fun _ cs (a : Bool) => cs = [.bool a]) (fun _ => True) := by
  intro H enc w base spare held n cs x hx
  obtain ⟨a, ha, hd⟩ := DataW.trod_bool ht hx
  exact ⟨a, ha, fun _ => trivial⟩
theorem weights_mem_all {H : Type} {P : Program} {e : TypeId} : ∀ {ds : List (DataW H)} {d : DataW H}, d ∈ ds → ∀ k ∈ DataW.weights P e d, k ∈ DataW.weightsAll P e ds
  | d0 :: ds, d, hd, k, hk => by
    simp only [DataW.weightsAll, List.mem_append]
    rcases List.mem_cons.1 hd with rfl | h
    · exact Or.inl hk
    · exact Or.inr (weights_mem_all h k hk)
theorem choose_list {β : Type} {Q : Nat → β → Prop} : ∀ (n : Nat), (∀ i, i < n → ∃ y, Q i y) → ∃ l : List β, l.length = n ∧ ∀ i y, l[i]? = some y → Q i y
  | 0, _ => ⟨[], rfl, fun i y h => by simp at h⟩
  | n + 1, h => by
    obtain ⟨l, hl, hq⟩ := choose_list n (fun i hi => h i (by omega))
    obtain ⟨y, hy⟩ := h n (by omega)
    refine ⟨l ++ [y], by simp [hl], fun i z hz => ?_⟩
    rcases Nat.lt_or_ge i l.length with hi | hi
    · rw [List.getElem?_append_left hi] at hz; exact hq i z hz
    · rw [List.getElem?_append_right hi] at hz
      have : i - l.length = 0 := by
        rcases Nat.eq_zero_or_pos (i - l.length) with h0 | h0
        · exact h0
        · rw [List.getElem?_eq_none (by simp; omega)] at hz; cases hz
      rw [this] at hz
      simp at hz
      subst hz
      obtain rfl : i = n := by omega
      exact hy
theorem opens_sl {α : Type} {P : Program} {t e : TypeId} {size : Nat} (row : α → List Value) {F : α → Prop} (ht : P.underlying t = some (.slice e)) (hc : P.cellsOf e = size) (hsz : 0 < size) (he : Opens P e (fun _ cs y => cs = row y) F) :
    Opens P t (fun w cs (l : List α) => ∃ v, cs = [v] ∧ Sl size (Plain row) (fun _ => True) w v l) (fun l => l.length * P.bytesOf e ≤ reachBytes ∧ ∀ y ∈ l, F y) := by
  intro H enc w base spare held n cs x hx
  rcases DataW.trod_slice ht hx with ⟨rfl, rfl⟩ | ⟨a, len, cap, elems, rest, m, _, rfl, rfl, hba, hlc, hcm, hel, hget, _, _⟩
  · exact ⟨[], ⟨_, rfl, Sl.nil _ _ _ _⟩, fun _ => ⟨by simp, fun y hy => by cases hy⟩⟩
  · rw [hc] at hget
    have hex : ∀ i, i < len → ∃ p : α × List Value, w.cells? base (a.add (i * size)) size = some p.2 ∧ p.2 = row p.1 ∧ (∃ d, elems[i]? = some d ∧ ((DataW.weights P e d.1).all (· ≤ reachBytes) = true → F p.1)) := by
      intro i hi
      have h1 := hget i hi
      obtain ⟨d, hd⟩ := some_of (l := elems) (i := i) (by omega)
      rw [hd, Option.bind_eq_some_iff] at h1
      obtain ⟨vs, hvs, htr⟩ := h1
      obtain ⟨y, h2, h3⟩ := he enc w base spare held m vs d htr
      exact ⟨(y, vs), hvs, h2, d, hd, h3⟩
    obtain ⟨l, hl, hq⟩ := choose_list (Q := fun i (p : α × List Value) => w.cells? base (a.add (i * size)) size = some p.2 ∧ p.2 = row p.1 ∧ (∃ d, elems[i]? = some d ∧ ((DataW.weights P e d.1).all (· ≤ reachBytes) = true → F p.1))) len hex
    refine ⟨l.map (·.1), ⟨_, rfl, some a, cap, by rw [List.length_map, hl], ⟨by rw [List.length_map, hl]; exact hlc, fun h => by cases h⟩, by rw [List.length_map, hl]; unfold maxLen at hcm; omega, fun hne => ?_⟩, fun hw => ?_⟩
    · have hlen : 0 < len := by
        rcases Nat.eq_zero_or_pos len with h0 | h0
        · exact absurd (by rw [List.eq_nil_of_length_eq_zero (hl.trans h0)]; rfl) hne
        · exact h0
      obtain ⟨b, off, spot⟩ := a
      obtain ⟨p0, hp0⟩ := some_of (l := l) (i := 0) (by omega)
      have hspot : spot = none := by
        obtain ⟨hc0, _, _⟩ := hq 0 p0 hp0
        obtain ⟨_, hl0, h0⟩ := World.cells?_some hc0
        have h00 := h0 0 hsz
        obtain ⟨u, hu⟩ := some_of (l := p0.2) (i := 0) (by omega)
        rw [hu] at h00
        have := World.cell?_spot h00
        cases spot with
        | none => rfl
        | some q => simp [Addr.add] at this
      subst hspot
      refine ⟨b, off, rfl, trivial, ?_, fun j y hj => ?_⟩
      · obtain ⟨hc0, _, _⟩ := hq 0 p0 hp0
        simpa [Addr.add, go_sem] using World.cells?_block hc0 hsz
      rw [List.getElem?_map] at hj
      rcases hpj : l[j]? with _ | p
      · rw [hpj] at hj; cases hj
      · rw [hpj] at hj
        simp at hj
        subst hj
        obtain ⟨hcj, hRj, _⟩ := hq j p hpj
        obtain ⟨_, hlj, hgj⟩ := World.cells?_some hcj
        refine ⟨p.2, hlj, hRj, fun i u hu => ?_⟩
        have hi : i < size := by
          rcases Nat.lt_or_ge i p.2.length with h | h
          · omega
          · rw [List.getElem?_eq_none h] at hu; cases hu
        have h1 := hgj i hi
        have hadd : (((⟨b, off, none⟩ : Addr).add (j * size)).add i) = ⟨b, off + j * size + i, none⟩ := by
          unfold Addr.add
          split <;> split <;> simp_all
        rw [hadd] at h1
        rw [h1, hu]
    · rw [List.all_eq_true] at hw
      have hu : DataW.weights P t (DataW.slice (elems.map (·.1)) (rest.map (·.1))) = (elems.length + rest.length) * P.bytesOf e :: (DataW.weightsAll P e (elems.map (·.1)) ++ DataW.weightsAll P e (rest.map (·.1))) := by
        simp [DataW.weights, ht]
      rw [hu] at hw
      refine ⟨?_, fun y hy => ?_⟩
      · have h1 := hw _ (List.mem_cons_self ..)
        simp only [decide_eq_true_eq] at h1
        rw [List.length_map, hl]
        refine Nat.le_trans (Nat.mul_le_mul_right _ ?_) h1
        omega
      · obtain ⟨p, hp, rfl⟩ := List.mem_map.1 hy
        obtain ⟨i, hi⟩ := List.mem_iff_getElem?.1 hp
        obtain ⟨_, _, d, hd, hF⟩ := hq i p hi
        refine hF (List.all_eq_true.2 fun k hk => hw k (List.mem_cons_of_mem _ (List.mem_append_left _ (weights_mem_all (List.mem_map.2 ⟨d, List.mem_of_getElem? hd, rfl⟩) k hk))))
/-- a struct, field by field -/
theorem struct_at {H : Type} {enc : TypeId × Value → H} {P : Program} {w : World} {base : Nat} {spare : Nat → Bool} {held : Bool} {n : Nat} {t : TypeId} {cs : List Value} {x : DataW H × List MemPlace} {fs : Array Field} (ht : P.underlying t = some (.struct fs)) (h : DataW.trod enc P w base spare held n t cs = some x) :
    cs.length = P.cellsOf t ∧ ∀ (i : Nat) (f : Field), fs[i]? = some f → ∃ m y, DataW.trod enc P w base spare held m f.type ((cs.drop f.offset).take (P.cellsOf f.type)) = some y ∧ ((DataW.weights P t x.1).all (· ≤ reachBytes) = true → (DataW.weights P f.type y.1).all (· ≤ reachBytes) = true) := by
  obtain ⟨xs, m, _, rfl, hl, hlen, hg⟩ := DataW.trod_struct ht h
  refine ⟨hl, fun i f hf => ?_⟩
  have hi : i < fs.size := by
    rcases Nat.lt_or_ge i fs.size with h | h
    · exact h
    · rw [Array.getElem?_eq_none h] at hf; cases hf
  obtain ⟨y, hy⟩ := some_of (l := xs) (i := i) (by omega)
  refine ⟨m, y, (hg i f hf).trans hy, fun hw => ?_⟩
  rw [List.all_eq_true] at hw ⊢
  intro k hk
  refine hw k ?_
  have hu : DataW.weights P t (DataW.agg (xs.map (·.1))) = DataW.weightsEach P (fs.toList.map (·.type)) (xs.map (·.1)) := by simp [DataW.weights, ht]
  rw [hu]
  exact DataW.weights_mem_each (j := i) (t := f.type) (d := y.1) (by simp [hf]) (by simp [hy]) k hk
/-- a struct as an argument -/
theorem Opens.arg {α : Type} {P : Program} {t : TypeId} {R : World → List Value → α → Prop} {F : α → Prop} (h : Opens P t R F) {H : Type} {enc : TypeId × Value → H} {w : World} {base : Nat} {spare : Nat → Bool} {held : Bool} {v : Value} {d : DataW H} {p : List MemPlace} (ht : DataW.Trod enc P w base spare held t v d p) :
    ∃ y, R w v.cells.toList y ∧ ((DataW.weights P t d).all (· ≤ reachBytes) = true → F y) := by
  obtain ⟨fuel, hf⟩ := ht
  exact h enc w base spare held fuel v.cells.toList (d, p) hf
end Go.Proofs.YtnmlkoidmacinaaDoor.Opn
