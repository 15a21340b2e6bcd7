/-
  Opening arguments by their bulk: texts, structs, slices of structs: what they hold and how much of it there can be.
-/
import Derived.Test.YtgdmcbjlfnjhjaaOg
import Derived.Test.YtgdmcbjlfnjhjaaRows
namespace Go.Proofs.Ytgdmcbjlfnjhjaa.Opn
open Go.ChangeShapes Go.WideShapes Go.ChangeAt Go.RowKit Wm Mm
set_option linter.unusedVariables false

theorem blk_pos {H : Type} (d : DataW H) : 1 ≤ Rows.uptoBulk d := by
  cases d with
  | lit l => cases l <;> simp [Rows.uptoBulk]
  | nil => simp [Rows.uptoBulk]
  | ptr d => simp [Rows.uptoBulk]
  | slice a b => simp [Rows.uptoBulk]
  | agg a => simp [Rows.uptoBulk]
  | iface a b => simp [Rows.uptoBulk]
  | map a => simp [Rows.uptoBulk]
  | held a => simp [Rows.uptoBulk]
theorem blk_len {H : Type} : ∀ ds : List (DataW H), ds.length ≤ Rows.uptoBulkAll ds
  | [] => Nat.zero_le _
  | d :: r => by
    have h1 := blk_pos d
    have h2 := blk_len r
    simp only [Rows.uptoBulkAll, List.length_cons]
    omega
theorem blk_part {H : Type} {d : DataW H} : ∀ {l : List (DataW H)}, d ∈ l → Rows.uptoBulk d ≤ Rows.uptoBulkAll l
  | x :: r, h => by
    simp only [Rows.uptoBulkAll]
    rcases List.mem_cons.1 h with e | e
    · subst e; omega
    · have := blk_part e; omega
theorem blk_agg {H : Type} {d : DataW H} {l : List (DataW H)} (h : d ∈ l) : Rows.uptoBulk d ≤ Rows.uptoBulk (DataW.agg l) := by
  have := blk_part h
  simp only [Rows.uptoBulk]
  omega
theorem blk_elem {H : Type} {d : DataW H} {l r : List (DataW H)} (h : d ∈ l) : Rows.uptoBulk d ≤ Rows.uptoBulk (DataW.slice l r) := by
  have := blk_part h
  simp only [Rows.uptoBulk]
  omega
theorem blk_slice {H : Type} {l r : List (DataW H)} : l.length ≤ Rows.uptoBulk (DataW.slice l r) := by
  have := blk_len l
  simp only [Rows.uptoBulk]
  omega

/-- what can be read as data of this type is such a thing; of this bulk it is no greater than that -/
def OpensB {α : Type} (P : Program) (t : TypeId) (R : World → List Value → α → Prop) (B : Nat → α → Prop) : Prop :=
  (∀ n m y, n ≤ m → B n y → B m y) ∧
  ∀ ⦃H : Type⦄ (enc : TypeId × Value → H) (w : World) (base : Nat) (spare : Nat → Bool) (held : Bool) (n : Nat) (cs : List Value) (x : DataW H × List MemPlace),
    DataW.trod enc P w base spare held n t cs = some x → ∃ y, R w cs y ∧ B (Rows.uptoBulk x.1) y
theorem opensB_int {P : Program} {t : TypeId} (ht : P.underlying t = some (.int .i64)) : OpensB P t (fun _ cs (a : Int) => cs = [.int .i64 a]) (fun _ a => -9223372036854775808 ≤ a ∧ a ≤ 9223372036854775807) := by
  refine ⟨fun _ _ _ _ h => h, fun H enc w base spare held n cs x hx => ?_⟩
  obtain ⟨a, ha, _, hwf⟩ := DataW.trod_int ht hx
  refine ⟨a, ha, ?_⟩
  simpa [Lit.wf, IntKind.min, IntKind.max, IntKind.signed, IntKind.bits] using hwf
theorem opensB_bool {P : Program} {t : TypeId} (ht : P.underlying t = some .bool) : OpensB P t (fun _ cs (a : Bool) => cs = [.bool a]) (fun _ _ => True) := by
  refine ⟨fun _ _ _ _ h => h, fun H enc w base spare held n cs x hx => ?_⟩
  obtain ⟨a, ha, hd⟩ := DataW.trod_bool ht hx
  exact ⟨a, ha, trivial⟩
theorem opensB_str {P : Program} {t : TypeId} (ht : P.underlying t = some .string) : OpensB P t (fun _ cs (a : List UInt8) => cs = [str a]) (fun n a => a.length ≤ n) := by
  refine ⟨fun _ _ _ h1 h => Nat.le_trans h h1, fun H enc w base spare held n cs x hx => ?_⟩
  obtain ⟨a, ha, hd, _⟩ := DataW.trod_string ht hx
  refine ⟨a.data.toList, by rw [ha, str_of a], ?_⟩
  rw [hd]
  simp only [Rows.uptoBulk]
  simp
/-- a struct, field by field -/
theorem struct_atB {H : Type} {enc : TypeId × Value → H} {P : Program} {w : World} {base : Nat} {spare : Nat → Bool} {held : Bool} {n : Nat} {t : TypeId} {cs : List Value} {x : DataW H × List MemPlace} {fs : Array Field} (ht : P.underlying t = some (.struct fs)) (h : DataW.trod enc P w base spare held n t cs = some x) :
    cs.length = P.cellsOf t ∧ ∀ (i : Nat) (f : Field), fs[i]? = some f → ∃ m y, DataW.trod enc P w base spare held m f.type ((cs.drop f.offset).take (P.cellsOf f.type)) = some y ∧ Rows.uptoBulk y.1 ≤ Rows.uptoBulk x.1 := by
  obtain ⟨xs, m, _, rfl, hl, hlen, hg⟩ := DataW.trod_struct ht h
  refine ⟨hl, fun i f hf => ?_⟩
  have hi : i < fs.size := by
    rcases Nat.lt_or_ge i fs.size with h | h
    · exact h
    · rw [Array.getElem?_eq_none h] at hf; cases hf
  obtain ⟨y, hy⟩ := some_of (l := xs) (i := i) (by omega)
  exact ⟨m, y, (hg i f hf).trans hy, blk_agg (List.mem_map.2 ⟨y, List.mem_of_getElem? hy, rfl⟩)⟩
theorem opensB_sl {α : Type} {P : Program} {t e : TypeId} {size : Nat} (row : α → List Value) {B : Nat → α → Prop} (ht : P.underlying t = some (.slice e)) (hc : P.cellsOf e = size) (hsz : 0 < size) (he : OpensB P e (fun _ cs y => cs = row y) B) :
    OpensB P t (fun w cs (l : List α) => ∃ v, cs = [v] ∧ Sl size (Plain row) (fun _ => True) w v l) (fun n l => l.length ≤ n ∧ ∀ y ∈ l, B n y) := by
  refine ⟨fun n m l h1 h => ⟨Nat.le_trans h.1 h1, fun y hy => he.1 n m y h1 (h.2 y hy)⟩, fun H enc w base spare held n cs x hx => ?_⟩
  rcases DataW.trod_slice ht hx with ⟨rfl, rfl⟩ | ⟨a, len, cap, elems, rest, m, _, rfl, rfl, hba, hlc, hcm, hel, hget, _, _⟩
  · exact ⟨[], ⟨_, rfl, Sl.nil _ _ _ _⟩, Nat.zero_le _, fun y hy => by cases hy⟩
  · rw [hc] at hget
    have hex : ∀ i, i < len → ∃ p : α × List Value, w.cells? base (a.add (i * size)) size = some p.2 ∧ p.2 = row p.1 ∧ (∃ d, elems[i]? = some d ∧ B (Rows.uptoBulk d.1) p.1) := by
      intro i hi
      have h1 := hget i hi
      obtain ⟨d, hd⟩ := some_of (l := elems) (i := i) (by omega)
      rw [hd, Option.bind_eq_some_iff] at h1
      obtain ⟨vs, hvs, htr⟩ := h1
      obtain ⟨y, h2, h3⟩ := he.2 enc w base spare held m vs d htr
      exact ⟨(y, vs), hvs, h2, d, hd, h3⟩
    obtain ⟨l, hl, hq⟩ := choose_list (Q := fun i (p : α × List Value) => w.cells? base (a.add (i * size)) size = some p.2 ∧ p.2 = row p.1 ∧ (∃ d, elems[i]? = some d ∧ B (Rows.uptoBulk d.1) p.1)) len hex
    refine ⟨l.map (·.1), ⟨_, rfl, some a, cap, by rw [List.length_map, hl], ⟨by rw [List.length_map, hl]; exact hlc, fun h => by cases h⟩, by rw [List.length_map, hl]; unfold maxLen at hcm; omega, fun hne => ?_⟩, ?_, fun y hy => ?_⟩
    · have hlen : 0 < len := by
        rcases Nat.eq_zero_or_pos len with h0 | h0
        · exact absurd (by rw [List.eq_nil_of_length_eq_zero (hl.trans h0)]; rfl) hne
        · exact h0
      obtain ⟨b, off, spot⟩ := a
      obtain ⟨p0, hp0⟩ := some_of (l := l) (i := 0) (by omega)
      have hspot : spot = none := by
        obtain ⟨hc0, _, _⟩ := hq 0 p0 hp0
        obtain ⟨_, hl0, h0⟩ := World.cells?_some hc0
        have h00 := h0 0 hsz
        obtain ⟨u, hu⟩ := some_of (l := p0.2) (i := 0) (by omega)
        rw [hu] at h00
        have := World.cell?_spot h00
        cases spot with
        | none => rfl
        | some q => simp [Addr.add] at this
      subst hspot
      refine ⟨b, off, rfl, trivial, ?_, fun j y hj => ?_⟩
      · obtain ⟨hc0, _, _⟩ := hq 0 p0 hp0
        simpa [Addr.add, go_sem] using World.cells?_block hc0 hsz
      rw [List.getElem?_map] at hj
      rcases hpj : l[j]? with _ | p
      · rw [hpj] at hj; cases hj
      · rw [hpj] at hj
        simp at hj
        subst hj
        obtain ⟨hcj, hRj, _⟩ := hq j p hpj
        obtain ⟨_, hlj, hgj⟩ := World.cells?_some hcj
        refine ⟨p.2, hlj, hRj, fun i u hu => ?_⟩
        have hi : i < size := by
          rcases Nat.lt_or_ge i p.2.length with h | h
          · omega
          · rw [List.getElem?_eq_none h] at hu; cases hu
        have h1 := hgj i hi
        have hadd : (((⟨b, off, none⟩ : Addr).add (j * size)).add i) = ⟨b, off + j * size + i, none⟩ := by
          unfold Addr.add
          split <;> split <;> simp_all
        rw [hadd] at h1
        rw [h1, hu]
    · have := blk_slice (l := elems.map (·.1)) (r := rest.map (·.1))
      rw [List.length_map] at this
      rw [List.length_map, hl]
      exact Nat.le_trans (by omega) this
    · obtain ⟨p, hp, rfl⟩ := List.mem_map.1 hy
      obtain ⟨i, hi⟩ := List.mem_iff_getElem?.1 hp
      obtain ⟨_, _, d, hd, hB⟩ := hq i p hi
      exact he.1 _ _ _ (blk_elem (List.mem_map.2 ⟨d, List.mem_of_getElem? hd, rfl⟩)) hB
/-- an argument -/
theorem OpensB.arg {α : Type} {P : Program} {t : TypeId} {R : World → List Value → α → Prop} {B : Nat → α → Prop} (h : OpensB P t R B) {H : Type} {enc : TypeId × Value → H} {w : World} {base : Nat} {spare : Nat → Bool} {held : Bool} {v : Value} {d : DataW H} {p : List MemPlace} (ht : DataW.Trod enc P w base spare held t v d p) :
    ∃ y, R w v.cells.toList y ∧ B (Rows.uptoBulk d) y := by
  obtain ⟨fuel, hf⟩ := ht
  exact h.2 enc w base spare held fuel v.cells.toList (d, p) hf
theorem OpensB.mono {α : Type} {P : Program} {t : TypeId} {R : World → List Value → α → Prop} {B : Nat → α → Prop} (h : OpensB P t R B) {n m : Nat} {y : α} (hn : n ≤ m) (hy : B n y) : B m y := h.1 n m y hn hy
end Go.Proofs.Ytgdmcbjlfnjhjaa.Opn
