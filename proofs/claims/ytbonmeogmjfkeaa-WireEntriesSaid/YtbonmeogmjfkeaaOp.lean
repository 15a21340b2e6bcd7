/-
  Opening arguments: entries, configurations.
-/
import Derived.Test.YtbonmeogmjfkeaaLift
import Derived.Test.YtbonmeogmjfkeaaCh
import Derived.Test.YtbonmeogmjfkeaaEn
namespace Go.Proofs.Ytbonmeogmjfkeaa.Opn
open Go.ChangeShapes Go.WideShapes Go.ChangeAt Go.RowKit Wm Mm
open Go.ChangeMaps (open_string)
set_option linter.unusedVariables false

theorem str_of (s : ByteArray) : Value.string s = str s.data.toList := by
  cases s with | mk d => rfl
section
variable {H : Type} {enc : TypeId × Value → H} {w : World} {base : Nat} {spare : Nat → Bool} {held : Bool}
theorem cell_int {n : Nat} {cs : List Value} {x : DataW H × List MemPlace} {c : Value} (h : DataW.trod enc Try.prog w base spare held n 3 cs = some x) (hc : cs = [c]) : ∃ a : Int, c = .int .i64 a := by
  obtain ⟨a, ha, _⟩ := DataW.trod_int Try.underlying3 h
  rw [ha] at hc; cases hc; exact ⟨a, rfl⟩
theorem cell_str {n : Nat} {cs : List Value} {x : DataW H × List MemPlace} {c : Value} (h : DataW.trod enc Try.prog w base spare held n 9 cs = some x) (hc : cs = [c]) : ∃ a : List UInt8, c = str a := by
  obtain ⟨a, ha, _⟩ := DataW.trod_string Try.underlying9 h
  rw [ha] at hc; cases hc; exact ⟨a.data.toList, str_of a⟩
theorem cell_ints {n : Nat} {cs : List Value} {x : DataW H × List MemPlace} {c : Value} (h : DataW.trod enc Try.prog w base spare held n 25 cs = some x) (hc : cs = [c]) :
    ∃ L : List Int, Ints w c L ∧ (L = [] ∨ ∃ el sp, x.1 = .slice el sp ∧ el.length = L.length) := by
  rcases open_ints Try.underlying25 Try.underlying3 (by kernel_rfl) h with ⟨hcs, _⟩ | ⟨a, len, cap, zs, hcs, _, hl, hm, hz, hx, hcell, hwz⟩
  · rw [hcs] at hc; cases hc
    exact ⟨[], ⟨none, 0, rfl, fun h => absurd rfl h, Nat.zero_le _⟩, Or.inl rfl⟩
  · rw [hcs] at hc; cases hc
    have hle : len ≤ zs.length := by rw [hz]; split <;> omega
    refine ⟨zs.take len, ⟨some a, cap, by simp [Nat.min_eq_left hle], fun hne => ?_, by simp; unfold maxLen at *; omega⟩, Or.inr ⟨_, _, by rw [hx], by simp [lits]⟩⟩
    have h0 : 0 < len := by
      rcases Nat.eq_zero_or_pos len with h0 | h0
      · subst h0; simp at hne
      · exact h0
    obtain ⟨b, off, spot⟩ := a
    have hspot : spot = none := by simpa [Addr.add] using World.cell?_spot (hcell 0 (by omega))
    subst hspot
    refine ⟨b, off, rfl, fun j x hj => ?_⟩
    have hj2 : j < (zs.take len).length := (List.getElem?_eq_some_iff.1 hj).1
    simp at hj2
    have h1 := hcell j (by omega)
    have hadd : (⟨b, off, none⟩ : Addr).add j = ⟨b, off + j, none⟩ := by unfold Addr.add; split <;> simp_all
    rw [hadd] at h1
    rw [h1]
    have hx : zs[j]? = some x := by rw [List.getElem?_take] at hj; rw [if_pos (by omega)] at hj; exact hj
    rw [List.getD_eq_getElem?_getD, hx]; rfl
theorem cells_int : Try.prog.cellsOf 3 = 1 := by kernel_rfl
theorem cells_str : Try.prog.cellsOf 9 = 1 := by kernel_rfl
theorem cells_ints : Try.prog.cellsOf 25 = 1 := by kernel_rfl
theorem cells_ent : Try.prog.cellsOf 92 = 4 := by kernel_rfl
theorem cells_conf : Try.prog.cellsOf 94 = 3 := by kernel_rfl
theorem bytes_int : Try.prog.bytesOf 3 = 8 := by kernel_rfl

theorem some_of {α : Type} {l : List α} {i : Nat} (h : i < l.length) : ∃ x, l[i]? = some x := ⟨_, List.getElem?_eq_getElem h⟩

set_option maxRecDepth 100000 in
theorem ent_cells {n : Nat} {c0 c1 c2 c3 : Value} {x : DataW H × List MemPlace} (h : DataW.trod enc Try.prog w base spare held n 92 [c0, c1, c2, c3] = some x) :
    ∃ (index term kind : Int) (data : List UInt8), c0 = .int .i64 index ∧ c1 = .int .i64 term ∧ c2 = .int .i64 kind ∧ c3 = str data := by
  obtain ⟨xs, m, _, _, _, hlen, hg⟩ := DataW.trod_struct Try.underlying92 h
  obtain ⟨y0, hy0⟩ := some_of (l := xs) (i := 0) (by rw [hlen]; decide)
  obtain ⟨y1, hy1⟩ := some_of (l := xs) (i := 1) (by rw [hlen]; decide)
  obtain ⟨y2, hy2⟩ := some_of (l := xs) (i := 2) (by rw [hlen]; decide)
  obtain ⟨y3, hy3⟩ := some_of (l := xs) (i := 3) (by rw [hlen]; decide)
  have h0 : DataW.trod enc Try.prog w base spare held m 3 (([c0, c1, c2, c3].drop 0).take (Try.prog.cellsOf 3)) = some y0 := (hg 0 _ rfl).trans hy0
  have h1 : DataW.trod enc Try.prog w base spare held m 3 (([c0, c1, c2, c3].drop 1).take (Try.prog.cellsOf 3)) = some y1 := (hg 1 _ rfl).trans hy1
  have h2 : DataW.trod enc Try.prog w base spare held m 3 (([c0, c1, c2, c3].drop 2).take (Try.prog.cellsOf 3)) = some y2 := (hg 2 _ rfl).trans hy2
  have h3 : DataW.trod enc Try.prog w base spare held m 9 (([c0, c1, c2, c3].drop 3).take (Try.prog.cellsOf 9)) = some y3 := (hg 3 _ rfl).trans hy3
  rw [cells_int] at h0 h1 h2
  rw [cells_str] at h3
  obtain ⟨i, rfl⟩ := cell_int (c := c0) h0 rfl
  obtain ⟨t, rfl⟩ := cell_int (c := c1) h1 rfl
  obtain ⟨k, rfl⟩ := cell_int (c := c2) h2 rfl
  obtain ⟨d, rfl⟩ := cell_str (c := c3) h3 rfl
  exact ⟨i, t, k, d, rfl, rfl, rfl, rfl⟩

set_option maxRecDepth 100000 in
theorem open_ent {r : Reach} {b0 : Nat} {v : Value} {d : DataW H} {p : List MemPlace} (hv : Value.okWide Try.prog w r b0 92 v) (h : DataW.Trod enc Try.prog w base spare held 92 v d p) :
    ∃ (index term kind : Int) (data : List UInt8), v = vEnt index term kind data := by
  obtain ⟨cs, rfl, hsz⟩ := okWide_struct Try.underlying92 hv
  obtain ⟨l⟩ := cs
  match l, hsz.trans cells_ent with
  | [c0, c1, c2, c3], _ =>
    obtain ⟨fuel, hf⟩ := h
    obtain ⟨i, t, k, d, rfl, rfl, rfl, rfl⟩ := ent_cells hf
    exact ⟨i, t, k, d, rfl⟩

/-- how long the lists of a configuration may be -/
def confFits (c : Conf) : Prop := c.v.length ≤ 17592186044000 ∧ c.n.length ≤ 17592186044000 ∧ c.l.length ≤ 17592186044000

set_option maxRecDepth 100000 in
theorem conf_cells {n : Nat} {c0 c1 c2 : Value} {x : DataW H × List MemPlace} (h : DataW.trod enc Try.prog w base spare held n 94 [c0, c1, c2] = some x) :
    ∃ c : Conf, Config3 w c0 c1 c2 c ∧ ((DataW.weights Try.prog 94 x.1).all (· ≤ reachBytes) = true → confFits c) := by
  obtain ⟨xs, m, _, hx, _, hlen, hg⟩ := DataW.trod_struct Try.underlying94 h
  obtain ⟨y0, hy0⟩ := some_of (l := xs) (i := 0) (by rw [hlen]; decide)
  obtain ⟨y1, hy1⟩ := some_of (l := xs) (i := 1) (by rw [hlen]; decide)
  obtain ⟨y2, hy2⟩ := some_of (l := xs) (i := 2) (by rw [hlen]; decide)
  have hl3 : xs.length = 3 := hlen
  have hxs : xs = [y0, y1, y2] := by
    match xs, hl3, hy0, hy1, hy2 with
    | [a, b, d], _, h0, h1, h2 => simp at h0 h1 h2; rw [h0, h1, h2]
  have h0 : DataW.trod enc Try.prog w base spare held m 25 (([c0, c1, c2].drop 0).take (Try.prog.cellsOf 25)) = some y0 := (hg 0 _ rfl).trans hy0
  have h1 : DataW.trod enc Try.prog w base spare held m 25 (([c0, c1, c2].drop 1).take (Try.prog.cellsOf 25)) = some y1 := (hg 1 _ rfl).trans hy1
  have h2 : DataW.trod enc Try.prog w base spare held m 25 (([c0, c1, c2].drop 2).take (Try.prog.cellsOf 25)) = some y2 := (hg 2 _ rfl).trans hy2
  rw [cells_ints] at h0 h1 h2
  obtain ⟨L0, i0, g0⟩ := cell_ints (c := c0) h0 rfl
  obtain ⟨L1, i1, g1⟩ := cell_ints (c := c1) h1 rfl
  obtain ⟨L2, i2, g2⟩ := cell_ints (c := c2) h2 rfl
  refine ⟨⟨L0, L1, L2⟩, ⟨i0, i1, i2⟩, fun hw => ?_⟩
  have hr : reachBytes = 140737488351232 := rfl
  have e1 : x.1 = .agg [y0.1, y1.1, y2.1] := by rw [hx, hxs]; rfl
  rw [e1] at hw
  have mem : ∀ (y : DataW H) (el sp : List (DataW H)), y = .slice el sp → (el.length + sp.length) * 8 ∈ DataW.weights Try.prog 25 y := by
    intro y el sp hy
    subst hy
    have : Try.prog.underlying 25 = some (.slice 3) := Try.underlying25
    simp [DataW.weights, this, bytes_int]
  have hwt : DataW.weights Try.prog 94 (DataW.agg [y0.1, y1.1, y2.1]) = DataW.weights Try.prog 25 y0.1 ++ (DataW.weights Try.prog 25 y1.1 ++ (DataW.weights Try.prog 25 y2.1 ++ [])) := by
    have hu := Try.underlying94
    simp [DataW.weights, hu, DataW.weightsEach]
  rw [hwt, List.all_eq_true] at hw
  have bound : ∀ (y : DataW H) (L : List Int), (∀ k ∈ DataW.weights Try.prog 25 y, k ≤ reachBytes) → (L = [] ∨ ∃ el sp, y = .slice el sp ∧ el.length = L.length) → L.length ≤ 17592186044000 := by
    intro y L hk hL
    rcases hL with rfl | ⟨el, sp, hy, he⟩
    · simp
    · have := hk _ (mem y el sp hy)
      omega
  refine ⟨bound y0.1 L0 (fun k hk => by simpa using hw k (by simp [hk])) g0, bound y1.1 L1 (fun k hk => by simpa using hw k (by simp [hk])) g1, bound y2.1 L2 (fun k hk => by simpa using hw k (by simp [hk])) g2⟩

set_option maxRecDepth 100000 in
theorem open_conf {r : Reach} {b0 : Nat} {v : Value} {d : DataW H} {p : List MemPlace} (hv : Value.okWide Try.prog w r b0 94 v) (h : DataW.Trod enc Try.prog w base spare held 94 v d p) :
    ∃ (x y z : Value) (c : Conf), v = .agg #[x, y, z] ∧ Config3 w x y z c ∧ ((DataW.weights Try.prog 94 d).all (· ≤ reachBytes) = true → confFits c) := by
  obtain ⟨cs, rfl, hsz⟩ := okWide_struct Try.underlying94 hv
  obtain ⟨l⟩ := cs
  match l, hsz.trans cells_conf with
  | [c0, c1, c2], _ =>
    obtain ⟨fuel, hf⟩ := h
    obtain ⟨c, h1, h2⟩ := conf_cells hf
    exact ⟨c0, c1, c2, c, rfl, h1, h2⟩
theorem weights_at {P : Program} {ts : List TypeId} {ds : List (DataW H)} (h : (DataW.weightsEach P ts ds).all (· ≤ reachBytes) = true) {j : Nat} {t : TypeId} {d : DataW H} (ht : ts[j]? = some t) (hd : ds[j]? = some d) : (DataW.weights P t d).all (· ≤ reachBytes) = true := by
  rw [List.all_eq_true] at h ⊢
  intro k hk
  exact h k (DataW.weights_mem_each ht hd k hk)
end
end Go.Proofs.Ytbonmeogmjfkeaa.Opn
