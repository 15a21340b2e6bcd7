/-
  Opening arguments: entries, configurations. Opening arguments: slices of structs, structs, field by field. Over any program.
-/
import Derived.Test.YtbonmeogmjfkeaaLift
import Derived.Test.YtbonmeogmjfkeaaCh
import Derived.Test.YtbonmeogmjfkeaaEn
import Derived.Test.YtbonmeogmjfkeaaTa
namespace Go.Proofs.Ytbonmeogmjfkeaa.Opn
open Go.ChangeShapes Go.WideShapes Go.ChangeAt Go.RowKit Wm Mm
open Go.ChangeMaps (open_string)
set_option linter.unusedVariables false

theorem str_of (s : ByteArray) : Value.string s = str s.data.toList := by
  cases s with | mk d => rfl
section
variable {H : Type} {enc : TypeId × Value → H} {w : World} {base : Nat} {spare : Nat → Bool} {held : Bool}
theorem cell_int {n : Nat} {cs : List Value} {x : DataW H × List MemPlace} {c : Value} (h : DataW.trod enc Try.prog w base spare held n 3 cs = some x) (hc : cs = [c]) : ∃ a : Int, c = .int .i64 a := by
  obtain ⟨a, ha, _⟩ := DataW.trod_int Try.underlying3 h
  rw [ha] at hc; cases hc; exact ⟨a, rfl⟩
theorem cell_str {n : Nat} {cs : List Value} {x : DataW H × List MemPlace} {c : Value} (h : DataW.trod enc Try.prog w base spare held n 9 cs = some x) (hc : cs = [c]) : ∃ a : List UInt8, c = str a := by
  obtain ⟨a, ha, _⟩ := DataW.trod_string Try.underlying9 h
  rw [ha] at hc; cases hc; exact ⟨a.data.toList, str_of a⟩
theorem cell_ints {n : Nat} {cs : List Value} {x : DataW H × List MemPlace} {c : Value} (h : DataW.trod enc Try.prog w base spare held n 25 cs = some x) (hc : cs = [c]) :
    ∃ L : List Int, Ints w c L ∧ (L = [] ∨ ∃ el sp, x.1 = .slice el sp ∧ el.length = L.length) := by
  rcases open_ints Try.underlying25 Try.underlying3 (by kernel_rfl) h with ⟨hcs, _⟩ | ⟨a, len, cap, zs, hcs, _, hl, hm, hz, hx, hcell, hwz⟩
  · rw [hcs] at hc; cases hc
    exact ⟨[], ⟨none, 0, rfl, fun h => absurd rfl h, Nat.zero_le _⟩, Or.inl rfl⟩
  · rw [hcs] at hc; cases hc
    have hle : len ≤ zs.length := by rw [hz]; split <;> omega
    refine ⟨zs.take len, ⟨some a, cap, by simp [Nat.min_eq_left hle], fun hne => ?_, by simp; unfold maxLen at *; omega⟩, Or.inr ⟨_, _, by rw [hx], by simp [lits]⟩⟩
    have h0 : 0 < len := by
      rcases Nat.eq_zero_or_pos len with h0 | h0
      · subst h0; simp at hne
      · exact h0
    obtain ⟨b, off, spot⟩ := a
    have hspot : spot = none := by simpa [Addr.add] using World.cell?_spot (hcell 0 (by omega))
    subst hspot
    refine ⟨b, off, rfl, fun j x hj => ?_⟩
    have hj2 : j < (zs.take len).length := (List.getElem?_eq_some_iff.1 hj).1
    simp at hj2
    have h1 := hcell j (by omega)
    have hadd : (⟨b, off, none⟩ : Addr).add j = ⟨b, off + j, none⟩ := by unfold Addr.add; split <;> simp_all
    rw [hadd] at h1
    rw [h1]
    have hx : zs[j]? = some x := by rw [List.getElem?_take] at hj; rw [if_pos (by omega)] at hj; exact hj
    rw [List.getD_eq_getElem?_getD, hx]; rfl
theorem cells_int : Try.prog.cellsOf 3 = 1 := by kernel_rfl
theorem cells_str : Try.prog.cellsOf 9 = 1 := by kernel_rfl
theorem cells_ints : Try.prog.cellsOf 25 = 1 := by kernel_rfl
theorem cells_ent : Try.prog.cellsOf 92 = 4 := by kernel_rfl
theorem cells_conf : Try.prog.cellsOf 94 = 3 := by kernel_rfl
theorem bytes_int : Try.prog.bytesOf 3 = 8 := by kernel_rfl

theorem some_of {α : Type} {l : List α} {i : Nat} (h : i < l.length) : ∃ x, l[i]? = some x := ⟨_, List.getElem?_eq_getElem h⟩

set_option maxRecDepth 100000 in
theorem ent_cells {n : Nat} {c0 c1 c2 c3 : Value} {x : DataW H × List MemPlace} (h : DataW.trod enc Try.prog w base spare held n 92 [c0, c1, c2, c3] = some x) :
    ∃ (index term kind : Int) (data : List UInt8), c0 = .int .i64 index ∧ c1 = .int .i64 term ∧ c2 = .int .i64 kind ∧ c3 = str data := by
  obtain ⟨xs, m, _, _, _, hlen, hg⟩ := DataW.trod_struct Try.underlying92 h
  obtain ⟨y0, hy0⟩ := some_of (l := xs) (i := 0) (by rw [hlen]; decide)
  obtain ⟨y1, hy1⟩ := some_of (l := xs) (i := 1) (by rw [hlen]; decide)
  obtain ⟨y2, hy2⟩ := some_of (l := xs) (i := 2) (by rw [hlen]; decide)
  obtain ⟨y3, hy3⟩ := some_of (l := xs) (i := 3) (by rw [hlen]; decide)
  have h0 : DataW.trod enc Try.prog w base spare held m 3 (([c0, c1, c2, c3].drop 0).take (Try.prog.cellsOf 3)) = some y0 := (hg 0 _ rfl).trans hy0
  have h1 : DataW.trod enc Try.prog w base spare held m 3 (([c0, c1, c2, c3].drop 1).take (Try.prog.cellsOf 3)) = some y1 := (hg 1 _ rfl).trans hy1
  have h2 : DataW.trod enc Try.prog w base spare held m 3 (([c0, c1, c2, c3].drop 2).take (Try.prog.cellsOf 3)) = some y2 := (hg 2 _ rfl).trans hy2
  have h3 : DataW.trod enc Try.prog w base spare held m 9 (([c0, c1, c2, c3].drop 3).take (Try.prog.cellsOf 9)) = some y3 := (hg 3 _ rfl).trans hy3
  rw [cells_int] at h0 h1 h2
  rw [cells_str] at h3
  obtain ⟨i, rfl⟩ := cell_int (c := c0) h0 rfl
  obtain ⟨t, rfl⟩ := cell_int (c := c1) h1 rfl
  obtain ⟨k, rfl⟩ := cell_int (c := c2) h2 rfl
  obtain ⟨d, rfl⟩ := cell_str (c := c3) h3 rfl
  exact ⟨i, t, k, d, rfl, rfl, rfl, rfl⟩

set_option maxRecDepth 100000 in
theorem open_ent {r : Reach} {b0 : Nat} {v : Value} {d : DataW H} {p : List MemPlace} (hv : Value.okWide Try.prog w r b0 92 v) (h : DataW.Trod enc Try.prog w base spare held 92 v d p) :
    ∃ (index term kind : Int) (data : List UInt8), v = vEnt index term kind data := by
  obtain ⟨cs, rfl, hsz⟩ := okWide_struct Try.underlying92 hv
  obtain ⟨l⟩ := cs
  match l, hsz.trans cells_ent with
  | [c0, c1, c2, c3], _ =>
    obtain ⟨fuel, hf⟩ := h
    obtain ⟨i, t, k, d, rfl, rfl, rfl, rfl⟩ := ent_cells hf
    exact ⟨i, t, k, d, rfl⟩

/-- how long the lists of a configuration may be -/
def confFits (c : Conf) : Prop := c.v.length ≤ 17592186044000 ∧ c.n.length ≤ 17592186044000 ∧ c.l.length ≤ 17592186044000

set_option maxRecDepth 100000 in
theorem conf_cells {n : Nat} {c0 c1 c2 : Value} {x : DataW H × List MemPlace} (h : DataW.trod enc Try.prog w base spare held n 94 [c0, c1, c2] = some x) :
    ∃ c : Conf, Config3 w c0 c1 c2 c ∧ ((DataW.weights Try.prog 94 x.1).all (· ≤ reachBytes) = true → confFits c) := by
  obtain ⟨xs, m, _, hx, _, hlen, hg⟩ := DataW.trod_struct Try.underlying94 h
  obtain ⟨y0, hy0⟩ := some_of (l := xs) (i := 0) (by rw [hlen]; decide)
  obtain ⟨y1, hy1⟩ := some_of (l := xs) (i := 1) (by rw [hlen]; decide)
  obtain ⟨y2, hy2⟩ := some_of (l := xs) (i := 2) (by rw [hlen]; decide)
  have hl3 : xs.length = 3 := hlen
  have hxs : xs = [y0, y1, y2] := by
    match xs, hl3, hy0, hy1, hy2 with
    | [a, b, d], _, h0, h1, h2 => simp at h0 h1 h2; rw [h0, h1, h2]
  have h0 : DataW.trod enc Try.prog w base spare held m 25 (([c0, c1, c2].drop 0).take (Try.prog.cellsOf 25)) = some y0 := (hg 0 _ rfl).trans hy0
  have h1 : DataW.trod enc Try.prog w base spare held m 25 (([c0, c1, c2].drop 1).take (Try.prog.cellsOf 25)) = some y1 := (hg 1 _ rfl).trans hy1
  have h2 : DataW.trod enc Try.prog w base spare held m 25 (([c0, c1, c2].drop 2).take (Try.prog.cellsOf 25)) = some y2 := (hg 2 _ rfl).trans hy2
  rw [cells_ints] at h0 h1 h2
  obtain ⟨L0, i0, g0⟩ := cell_ints (c := c0) h0 rfl
  obtain ⟨L1, i1, g1⟩ := cell_ints (c := c1) h1 rfl
  obtain ⟨L2, i2, g2⟩ := cell_ints (c := c2) h2 rfl
  refine ⟨⟨L0, L1, L2⟩, ⟨i0, i1, i2⟩, fun hw => ?_⟩
  have hr : reachBytes = 140737488351232 := rfl
  have e1 : x.1 = .agg [y0.1, y1.1, y2.1] := by rw [hx, hxs]; rfl
  rw [e1] at hw
  have mem : ∀ (y : DataW H) (el sp : List (DataW H)), y = .slice el sp → (el.length + sp.length) * 8 ∈ DataW.weights Try.prog 25 y := by
    intro y el sp hy
    subst hy
    have : Try.prog.underlying 25 = some (.slice 3) := Try.underlying25
    simp [DataW.weights, this, bytes_int]
  have hwt : DataW.weights Try.prog 94 (DataW.agg [y0.1, y1.1, y2.1]) = DataW.weights Try.prog 25 y0.1 ++ (DataW.weights Try.prog 25 y1.1 ++ (DataW.weights Try.prog 25 y2.1 ++ [])) := by
    have hu := Try.underlying94
    simp [DataW.weights, hu, DataW.weightsEach]
  rw [hwt, List.all_eq_true] at hw
  have bound : ∀ (y : DataW H) (L : List Int), (∀ k ∈ DataW.weights Try.prog 25 y, k ≤ reachBytes) → (L = [] ∨ ∃ el sp, y = .slice el sp ∧ el.length = L.length) → L.length ≤ 17592186044000 := by
    intro y L hk hL
    rcases hL with rfl | ⟨el, sp, hy, he⟩
    · simp
    · have := hk _ (mem y el sp hy)
      omega
  refine ⟨bound y0.1 L0 (fun k hk => by simpa using hw k (by simp [hk])) g0, bound y1.1 L1 (fun k hk => by simpa using hw k (by simp [hk])) g1, bound y2.1 L2 (fun k hk => by simpa using hw k (by simp [hk])) g2⟩

set_option maxRecDepth 100000 in
theorem open_conf {r : Reach} {b0 : Nat} {v : Value} {d : DataW H} {p : List MemPlace} (hv : Value.okWide Try.prog w r b0 94 v) (h : DataW.Trod enc Try.prog w base spare held 94 v d p) :
    ∃ (x y z : Value) (c : Conf), v = .agg #[x, y, z] ∧ Config3 w x y z c ∧ ((DataW.weights Try.prog 94 d).all (· ≤ reachBytes) = true → confFits c) := by
  obtain ⟨cs, rfl, hsz⟩ := okWide_struct Try.underlying94 hv
  obtain ⟨l⟩ := cs
  match l, hsz.trans cells_conf with
  | [c0, c1, c2], _ =>
    obtain ⟨fuel, hf⟩ := h
    obtain ⟨c, h1, h2⟩ := conf_cells hf
    exact ⟨c0, c1, c2, c, rfl, h1, h2⟩
theorem weights_at {P : Program} {ts : List TypeId} {ds : List (DataW H)} (h : (DataW.weightsEach P ts ds).all (· ≤ reachBytes) = true) {j : Nat} {t : TypeId} {d : DataW H} (ht : ts[j]? = some t) (hd : ds[j]? = some d) : (DataW.weights P t d).all (· ≤ reachBytes) = true := by
  rw [List.all_eq_true] at h ⊢
  intro k hk
  exact h k (DataW.weights_mem_each ht hd k hk)
end
end Go.Proofs.Ytbonmeogmjfkeaa.Opn

namespace Go.Proofs.Ytbonmeogmjfkeaa.Opn
open Go.ChangeShapes Go.WideShapes Go.ChangeAt Go.RowKit Wm Mm
set_option linter.unusedVariables false

/-- what can be read as data of this type is such a thing; and, if all of it fits, it is no greater than this -/
def Opens {α : Type} (P : Program) (t : TypeId) (R : World → List Value → α → Prop) (F : α → Prop) : Prop :=
  ∀ ⦃H : Type⦄ (enc : TypeId × Value → H) (w : World) (base : Nat) (spare : Nat → Bool) (held : Bool) (n : Nat) (cs : List Value) (x : DataW H × List MemPlace),
    DataW.trod enc P w base spare held n t cs = some x → ∃ y, R w cs y ∧ ((DataW.weights P t x.1).all (· ≤ reachBytes) = true → F y)
theorem Opens.imp {α : Type} {P : Program} {t : TypeId} {R R' : World → List Value → α → Prop} {F F' : α → Prop} (h : Opens P t R F) (hR : ∀ w cs y, R w cs y → R' w cs y) (hF : ∀ y, F y → F' y) : Opens P t R' F' := by
  intro H enc w base spare held n cs x hx
  obtain ⟨y, h1, h2⟩ := h enc w base spare held n cs x hx
  exact ⟨y, hR _ _ _ h1, fun hw => hF _ (h2 hw)⟩
theorem opens_int {P : Program} {t : TypeId} (ht : P.underlying t = some (.int .i64)) : Opens P t (fun _ cs (a : Int) => cs = [.int .i64 a]) (fun a => -9223372036854775808 ≤ a ∧ a ≤ 9223372036854775807) := by
  intro H enc w base spare held n cs x hx
  obtain ⟨a, ha, _, hwf⟩ := DataW.trod_int ht hx
  refine ⟨a, ha, fun _ => ?_⟩
  simpa [Lit.wf, IntKind.min, IntKind.max, IntKind.signed, IntKind.bits] using hwf
theorem opens_str {P : Program} {t : TypeId} (ht : P.underlying t = some .string) : Opens P t (fun _ cs (a : List UInt8) => cs = [str a]) (fun a => a.length ≤ reachBytes) := by
  intro H enc w base spare held n cs x hx
  obtain ⟨a, ha, hd, _⟩ := DataW.trod_string ht hx
  refine ⟨a.data.toList, by rw [ha, str_of a], fun hw => ?_⟩
  rw [hd] at hw
  simpa [DataW.weights] using hw
theorem opens_bool {P : Program} {t : TypeId} (ht : P.underlying t = some .bool) : Opens P t (fun _ cs (a : Bool) => cs = [.bool a]) (fun _ => True) := by
  intro H enc w base spare held n cs x hx
  obtain ⟨a, ha, hd⟩ := DataW.trod_bool ht hx
  exact ⟨a, ha, fun _ => trivial⟩
theorem weights_mem_all {H : Type} {P : Program} {e : TypeId} : ∀ {ds : List (DataW H)} {d : DataW H}, d ∈ ds → ∀ k ∈ DataW.weights P e d, k ∈ DataW.weightsAll P e ds
  | d0 :: ds, d, hd, k, hk => by
    simp only [DataW.weightsAll, List.mem_append]
    rcases List.mem_cons.1 hd with rfl | h
    · exact Or.inl hk
    · exact Or.inr (weights_mem_all h k hk)
theorem choose_list {β : Type} {Q : Nat → β → Prop} : ∀ (n : Nat), (∀ i, i < n → ∃ y, Q i y) → ∃ l : List β, l.length = n ∧ ∀ i y, l[i]? = some y → Q i y
  | 0, _ => ⟨[], rfl, fun i y h => by simp at h⟩
  | n + 1, h => by
    obtain ⟨l, hl, hq⟩ := choose_list n (fun i hi => h i (by omega))
    obtain ⟨y, hy⟩ := h n (by omega)
    refine ⟨l ++ [y], by simp [hl], fun i z hz => ?_⟩
    rcases Nat.lt_or_ge i l.length with hi | hi
    · rw [List.getElem?_append_left hi] at hz; exact hq i z hz
    · rw [List.getElem?_append_right hi] at hz
      have : i - l.length = 0 := by
        rcases Nat.eq_zero_or_pos (i - l.length) with h0 | h0
        · exact h0
        · rw [List.getElem?_eq_none (by simp; omega)] at hz; cases hz
      rw [this] at hz
      simp at hz
      subst hz
      obtain rfl : i = n := by omega
      exact hy
theorem opens_slice {α : Type} {P : Program} {t e : TypeId} {size : Nat} {R : World → List Value → α → Prop} {F : α → Prop} (ht : P.underlying t = some (.slice e)) (hc : P.cellsOf e = size) (hsz : 0 < size) (he : Opens P e R F) :
    Opens P t (fun w cs (l : List α) => ∃ v, cs = [v] ∧ RecsP size R w v l) (fun l => l.length * P.bytesOf e ≤ reachBytes ∧ ∀ y ∈ l, F y) := by
  intro H enc w base spare held n cs x hx
  rcases DataW.trod_slice ht hx with ⟨rfl, rfl⟩ | ⟨a, len, cap, elems, rest, m, _, rfl, rfl, hba, hlc, hcm, hel, hget, _, _⟩
  · exact ⟨[], ⟨_, rfl, none, 0, rfl, fun h => absurd rfl h, Nat.zero_le _⟩, fun _ => ⟨by simp, fun y hy => by cases hy⟩⟩
  · rw [hc] at hget
    have hex : ∀ i, i < len → ∃ p : α × List Value, w.cells? base (a.add (i * size)) size = some p.2 ∧ R w p.2 p.1 ∧ (∃ d, elems[i]? = some d ∧ ((DataW.weights P e d.1).all (· ≤ reachBytes) = true → F p.1)) := by
      intro i hi
      have h1 := hget i hi
      obtain ⟨d, hd⟩ := some_of (l := elems) (i := i) (by omega)
      rw [hd, Option.bind_eq_some_iff] at h1
      obtain ⟨vs, hvs, htr⟩ := h1
      obtain ⟨y, h2, h3⟩ := he enc w base spare held m vs d htr
      exact ⟨(y, vs), hvs, h2, d, hd, h3⟩
    obtain ⟨l, hl, hq⟩ := choose_list (Q := fun i (p : α × List Value) => w.cells? base (a.add (i * size)) size = some p.2 ∧ R w p.2 p.1 ∧ (∃ d, elems[i]? = some d ∧ ((DataW.weights P e d.1).all (· ≤ reachBytes) = true → F p.1))) len hex
    refine ⟨l.map (·.1), ⟨_, rfl, some a, cap, by rw [List.length_map, hl], fun hne => ?_, by rw [List.length_map, hl]; unfold maxLen at hcm; omega⟩, fun hw => ?_⟩
    · have hlen : 0 < len := by
        rcases Nat.eq_zero_or_pos len with h0 | h0
        · exact absurd (by rw [List.eq_nil_of_length_eq_zero (hl.trans h0)]; rfl) hne
        · exact h0
      obtain ⟨b, off, spot⟩ := a
      obtain ⟨p0, hp0⟩ := some_of (l := l) (i := 0) (by omega)
      have hspot : spot = none := by
        obtain ⟨hc0, _, _⟩ := hq 0 p0 hp0
        obtain ⟨_, hl0, h0⟩ := World.cells?_some hc0
        have h00 := h0 0 hsz
        obtain ⟨u, hu⟩ := some_of (l := p0.2) (i := 0) (by omega)
        rw [hu] at h00
        have := World.cell?_spot h00
        cases spot with
        | none => rfl
        | some q => simp [Addr.add] at this
      subst hspot
      refine ⟨b, off, rfl, fun j y hj => ?_⟩
      rw [List.getElem?_map] at hj
      rcases hpj : l[j]? with _ | p
      · rw [hpj] at hj; cases hj
      · rw [hpj] at hj
        simp at hj
        subst hj
        obtain ⟨hcj, hRj, _⟩ := hq j p hpj
        obtain ⟨_, hlj, hgj⟩ := World.cells?_some hcj
        refine ⟨p.2, hlj, hRj, fun i u hu => ?_⟩
        have hi : i < size := by
          rcases Nat.lt_or_ge i p.2.length with h | h
          · omega
          · rw [List.getElem?_eq_none h] at hu; cases hu
        have h1 := hgj i hi
        have hadd : (((⟨b, off, none⟩ : Addr).add (j * size)).add i) = ⟨b, off + j * size + i, none⟩ := by
          unfold Addr.add
          split <;> split <;> simp_all
        rw [hadd] at h1
        rw [h1, hu]
    · rw [List.all_eq_true] at hw
      have hu : DataW.weights P t (DataW.slice (elems.map (·.1)) (rest.map (·.1))) = (elems.length + rest.length) * P.bytesOf e :: (DataW.weightsAll P e (elems.map (·.1)) ++ DataW.weightsAll P e (rest.map (·.1))) := by
        simp [DataW.weights, ht]
      rw [hu] at hw
      refine ⟨?_, fun y hy => ?_⟩
      · have h1 := hw _ (List.mem_cons_self ..)
        simp only [decide_eq_true_eq] at h1
        rw [List.length_map, hl]
        refine Nat.le_trans (Nat.mul_le_mul_right _ ?_) h1
        omega
      · obtain ⟨p, hp, rfl⟩ := List.mem_map.1 hy
        obtain ⟨i, hi⟩ := List.mem_iff_getElem?.1 hp
        obtain ⟨_, _, d, hd, hF⟩ := hq i p hi
        refine hF (List.all_eq_true.2 fun k hk => hw k (List.mem_cons_of_mem _ (List.mem_append_left _ (weights_mem_all (List.mem_map.2 ⟨d, List.mem_of_getElem? hd, rfl⟩) k hk))))
/-- a struct, field by field -/
theorem struct_at {H : Type} {enc : TypeId × Value → H} {P : Program} {w : World} {base : Nat} {spare : Nat → Bool} {held : Bool} {n : Nat} {t : TypeId} {cs : List Value} {x : DataW H × List MemPlace} {fs : Array Field} (ht : P.underlying t = some (.struct fs)) (h : DataW.trod enc P w base spare held n t cs = some x) :
    cs.length = P.cellsOf t ∧ ∀ (i : Nat) (f : Field), fs[i]? = some f → ∃ m y, DataW.trod enc P w base spare held m f.type ((cs.drop f.offset).take (P.cellsOf f.type)) = some y ∧ ((DataW.weights P t x.1).all (· ≤ reachBytes) = true → (DataW.weights P f.type y.1).all (· ≤ reachBytes) = true) := by
  obtain ⟨xs, m, _, rfl, hl, hlen, hg⟩ := DataW.trod_struct ht h
  refine ⟨hl, fun i f hf => ?_⟩
  have hi : i < fs.size := by
    rcases Nat.lt_or_ge i fs.size with h | h
    · exact h
    · rw [Array.getElem?_eq_none h] at hf; cases hf
  obtain ⟨y, hy⟩ := some_of (l := xs) (i := i) (by omega)
  refine ⟨m, y, (hg i f hf).trans hy, fun hw => ?_⟩
  rw [List.all_eq_true] at hw ⊢
  intro k hk
  refine hw k ?_
  have hu : DataW.weights P t (DataW.agg (xs.map (·.1))) = DataW.weightsEach P (fs.toList.map (·.type)) (xs.map (·.1)) := by simp [DataW.weights, ht]
  rw [hu]
  exact DataW.weights_mem_each (j := i) (t := f.type) (d := y.1) (by simp [hf]) (by simp [hy]) k hk
/-- a struct as an argument -/
theorem Opens.arg {α : Type} {P : Program} {t : TypeId} {R : World → List Value → α → Prop} {F : α → Prop} (h : Opens P t R F) {H : Type} {enc : TypeId × Value → H} {w : World} {base : Nat} {spare : Nat → Bool} {held : Bool} {v : Value} {d : DataW H} {p : List MemPlace} (ht : DataW.Trod enc P w base spare held t v d p) :
    ∃ y, R w v.cells.toList y ∧ ((DataW.weights P t d).all (· ≤ reachBytes) = true → F y) := by
  obtain ⟨fuel, hf⟩ := ht
  exact h enc w base spare held fuel v.cells.toList (d, p) hf
end Go.Proofs.Ytbonmeogmjfkeaa.Opn
