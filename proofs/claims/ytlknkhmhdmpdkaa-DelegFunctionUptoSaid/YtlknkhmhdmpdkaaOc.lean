/-
  Opening arguments: what is given, texts; how many a reading of so much bulk can hold.
-/
import Derived.Test.YtlknkhmhdmpdkaaOb
import Derived.Test.YtlknkhmhdmpdkaaHc
import Derived.Test.YtlknkhmhdmpdkaaRows
namespace Go.Proofs.Ytlknkhmhdmpdkaa.Opn
open Go.ChangeShapes Go.WideShapes Go.ChangeAt Go.RowKit Wm Mm Dg
set_option linter.unusedVariables false
theorem cells_given : Try.prog.cellsOf 46 = 3 := by kernel_rfl
set_option maxRecDepth 100000 in
theorem opens_given : Opens Try.prog 46 (fun _ cs (e : GivenP) => cs = rowG e) (fun _ => True) := by
  intro H enc w base spare held n cs x hx
  obtain ⟨hl, hg⟩ := struct_at Try.underlying46 hx
  rw [cells_given] at hl
  match cs, hl with
  | [c0, c1, c2], _ =>
    obtain ⟨m0, y0, h0, _⟩ := hg 0 _ rfl
    obtain ⟨m1, y1, h1, _⟩ := hg 1 _ rfl
    obtain ⟨m2, y2, h2, _⟩ := hg 2 _ rfl
    have h0 : DataW.trod enc Try.prog w base spare held m0 9 (([c0, c1, c2].drop 0).take (Try.prog.cellsOf 9)) = some y0 := h0
    have h1 : DataW.trod enc Try.prog w base spare held m1 9 (([c0, c1, c2].drop 1).take (Try.prog.cellsOf 9)) = some y1 := h1
    have h2 : DataW.trod enc Try.prog w base spare held m2 3 (([c0, c1, c2].drop 2).take (Try.prog.cellsOf 3)) = some y2 := h2
    rw [cells_strB] at h0 h1
    rw [cells_intB] at h2
    obtain ⟨a, ha, _⟩ := opens_str Try.underlying9 enc w base spare held m0 _ y0 h0
    obtain ⟨b, hb, _⟩ := opens_str Try.underlying9 enc w base spare held m1 _ y1 h1
    obtain ⟨c, hc, _⟩ := opens_int Try.underlying3 enc w base spare held m2 _ y2 h2
    obtain rfl : c0 = str a := by simpa using ha
    obtain rfl : c1 = str b := by simpa using hb
    obtain rfl : c2 = .int .i64 c := by simpa using hc
    exact ⟨⟨a, b, c⟩, rfl, fun _ => trivial⟩
theorem opens_givens : Opens Try.prog 42 (fun w cs (l : List GivenP) => ∃ v, cs = [v] ∧ Gvns (fun _ => True) w v l) (fun _ => True) :=
  (opens_sl rowG Try.underlying42 cells_given (by decide) opens_given).imp (fun w cs y h => h) (fun y h => trivial)
theorem opens_texts : Opens Try.prog 43 (fun w cs (l : List (List UInt8)) => ∃ v, cs = [v] ∧ Txts (fun _ => True) w v l) (fun _ => True) :=
  (opens_sl rowS Try.underlying43 cells_strB (by decide) ((opens_str Try.underlying9).imp (fun w cs y h => h) (fun y h => h))).imp (fun w cs y h => h) (fun y h => trivial)

theorem bulk_pos {H : Type} (d : DataW H) : 1 ≤ Rows.uptoBulk d := by
  cases d with
  | lit l => cases l <;> simp [Rows.uptoBulk]
  | nil => simp [Rows.uptoBulk]
  | ptr d => simp [Rows.uptoBulk]
  | slice a b => simp [Rows.uptoBulk]
  | agg a => simp [Rows.uptoBulk]
  | iface a b => simp [Rows.uptoBulk]
  | map a => simp [Rows.uptoBulk]
  | held a => simp [Rows.uptoBulk]
theorem bulk_len {H : Type} : ∀ ds : List (DataW H), ds.length ≤ Rows.uptoBulkAll ds
  | [] => Nat.zero_le _
  | d :: r => by
    have h1 := bulk_pos d
    have h2 := bulk_len r
    simp only [Rows.uptoBulkAll, List.length_cons]
    omega
/-- a slice holds no more elements than its reading is of bulk -/
theorem bulk_slice {H : Type} {enc : TypeId × Value → H} {w : World} {t e : TypeId} {v : Value} {d : DataW H} {p : List MemPlace} {α : Type} {size : Nat} {R : Rep α} {F : Nat → Prop} {l : List α} (ht : Try.prog.underlying t = some (.slice e)) (h : DataW.Trod enc Try.prog w 0 (fun _ => true) true t v d p) (hv : v.cells.toList = [v]) (hl : Sl size R F w v l) : l.length ≤ Rows.uptoBulk d := by
  obtain ⟨fuel, hf⟩ := h
  have hf' : DataW.trod enc Try.prog w 0 (fun _ => true) true fuel t v.cells.toList = some (d, p) := hf
  rw [hv] at hf'
  rcases DataW.trod_slice ht hf' with ⟨e1, e2⟩ | ⟨a, len, cap, elems, rest, n, _, e1, e2, _, _, _, hlen, _⟩
  · have hv2 : v = .slice none 0 0 := (List.cons.inj e1).1
    subst hv2
    obtain ⟨ao, c, he, _⟩ := hl.slice
    have hl0 : l.length = 0 := (Value.slice.inj he).2.1.symm
    rw [hl0]
    exact Nat.zero_le _
  · have hv2 : v = .slice (some a) len cap := (List.cons.inj e1).1
    subst hv2
    obtain ⟨ao, c, he, _⟩ := hl.slice
    have hl0 : l.length = len := (Value.slice.inj he).2.1.symm
    have hd : d = .slice (elems.map (·.1)) (rest.map (·.1)) := by injection e2
    have := bulk_len (elems.map (·.1))
    rw [List.length_map] at this
    rw [hd]
    simp only [Rows.uptoBulk]
    omega
end Go.Proofs.Ytlknkhmhdmpdkaa.Opn
