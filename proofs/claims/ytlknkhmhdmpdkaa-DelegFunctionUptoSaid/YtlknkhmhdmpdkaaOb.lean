/-
  Opening arguments: bounds, slices of bounds.
-/
import Derived.Test.YtlknkhmhdmpdkaaOg
import Derived.Test.YtlknkhmhdmpdkaaDc
namespace Go.Proofs.Ytlknkhmhdmpdkaa.Opn
open Go.ChangeShapes Go.WideShapes Go.ChangeAt Go.RowKit Wm Mm Dg
set_option linter.unusedVariables false
theorem cells_intB : Try.prog.cellsOf 3 = 1 := by kernel_rfl
theorem cells_strB : Try.prog.cellsOf 9 = 1 := by kernel_rfl
theorem cells_bound : Try.prog.cellsOf 36 = 2 := by kernel_rfl
theorem bytes_bound : Try.prog.bytesOf 36 = 24 := by kernel_rfl
set_option maxRecDepth 100000 in
theorem opens_bound : Opens Try.prog 36 (fun _ cs (e : BoundP) => cs = rowB e) (fun _ => True) := by
  intro H enc w base spare held n cs x hx
  obtain ⟨hl, hg⟩ := struct_at Try.underlying36 hx
  rw [cells_bound] at hl
  match cs, hl with
  | [c0, c1], _ =>
    obtain ⟨m0, y0, h0, _⟩ := hg 0 _ rfl
    obtain ⟨m1, y1, h1, _⟩ := hg 1 _ rfl
    have h0 : DataW.trod enc Try.prog w base spare held m0 9 (([c0, c1].drop 0).take (Try.prog.cellsOf 9)) = some y0 := h0
    have h1 : DataW.trod enc Try.prog w base spare held m1 3 (([c0, c1].drop 1).take (Try.prog.cellsOf 3)) = some y1 := h1
    rw [cells_strB] at h0
    rw [cells_intB] at h1
    obtain ⟨a, ha, _⟩ := opens_str Try.underlying9 enc w base spare held m0 _ y0 h0
    obtain ⟨b, hb, _⟩ := opens_int Try.underlying3 enc w base spare held m1 _ y1 h1
    obtain rfl : c0 = str a := by simpa using ha
    obtain rfl : c1 = .int .i64 b := by simpa using hb
    exact ⟨⟨a, b⟩, rfl, fun _ => trivial⟩
theorem opens_bounds : Opens Try.prog 32 (fun w cs (l : List BoundP) => ∃ v, cs = [v] ∧ Bnds (fun _ => True) w v l) (fun l => l.length ≤ 5864062014634) :=
  (opens_sl rowB Try.underlying32 cells_bound (by decide) opens_bound).imp (fun w cs y h => h) (fun y h => by
    have h1 := h.1
    rw [bytes_bound] at h1
    have hr : reachBytes = 140737488351232 := rfl
    omega)
end Go.Proofs.Ytlknkhmhdmpdkaa.Opn
