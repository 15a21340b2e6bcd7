/-
  Opening arguments: entries, slices of entries, logs.
-/
import Derived.Test.YtgdmcbjlfnjhjaaOg
import Derived.Test.YtgdmcbjlfnjhjaaLc
namespace Go.Proofs.Ytgdmcbjlfnjhjaa.Opn
open Go.ChangeShapes Go.WideShapes Go.ChangeAt Go.RowKit Wm Mm Lg
set_option linter.unusedVariables false
theorem cells_int : Try.prog.cellsOf 3 = 1 := by kernel_rfl
theorem cells_str : Try.prog.cellsOf 9 = 1 := by kernel_rfl
theorem cells_entry : Try.prog.cellsOf 30 = 4 := by kernel_rfl
theorem cells_entries : Try.prog.cellsOf 31 = 1 := by kernel_rfl
theorem cells_log : Try.prog.cellsOf 33 = 3 := by kernel_rfl
theorem bytes_entry : Try.prog.bytesOf 30 = 40 := by kernel_rfl
set_option maxRecDepth 100000 in
theorem opens_entry : Opens Try.prog 30 (fun _ cs (e : EntP) => cs = rowE e) (fun _ => True) := by
  intro H enc w base spare held n cs x hx
  obtain ⟨hl, hg⟩ := struct_at Try.underlying30 hx
  rw [cells_entry] at hl
  match cs, hl with
  | [c0, c1, c2, c3], _ =>
    obtain ⟨m0, y0, h0, _⟩ := hg 0 _ rfl
    obtain ⟨m1, y1, h1, _⟩ := hg 1 _ rfl
    obtain ⟨m2, y2, h2, _⟩ := hg 2 _ rfl
    obtain ⟨m3, y3, h3, _⟩ := hg 3 _ rfl
    have h0 : DataW.trod enc Try.prog w base spare held m0 3 (([c0, c1, c2, c3].drop 0).take (Try.prog.cellsOf 3)) = some y0 := h0
    have h1 : DataW.trod enc Try.prog w base spare held m1 3 (([c0, c1, c2, c3].drop 1).take (Try.prog.cellsOf 3)) = some y1 := h1
    have h2 : DataW.trod enc Try.prog w base spare held m2 3 (([c0, c1, c2, c3].drop 2).take (Try.prog.cellsOf 3)) = some y2 := h2
    have h3 : DataW.trod enc Try.prog w base spare held m3 9 (([c0, c1, c2, c3].drop 3).take (Try.prog.cellsOf 9)) = some y3 := h3
    rw [cells_int] at h0 h1 h2
    rw [cells_str] at h3
    obtain ⟨a, ha, _⟩ := opens_int Try.underlying3 enc w base spare held m0 _ y0 h0
    obtain ⟨b, hb, _⟩ := opens_int Try.underlying3 enc w base spare held m1 _ y1 h1
    obtain ⟨c, hc, _⟩ := opens_int Try.underlying3 enc w base spare held m2 _ y2 h2
    obtain ⟨d, hd, _⟩ := opens_str Try.underlying9 enc w base spare held m3 _ y3 h3
    obtain rfl : c0 = .int .i64 a := by simpa using ha
    obtain rfl : c1 = .int .i64 b := by simpa using hb
    obtain rfl : c2 = .int .i64 c := by simpa using hc
    obtain rfl : c3 = str d := by simpa using hd
    exact ⟨⟨a, b, c, d⟩, rfl, fun _ => trivial⟩
theorem opens_entries : Opens Try.prog 31 (fun w cs (l : List EntP) => ∃ v, cs = [v] ∧ Ents (fun _ => True) w v l) (fun l => l.length ≤ 3518437208780) :=
  (opens_sl rowE Try.underlying31 cells_entry (by decide) opens_entry).imp (fun w cs y h => h) (fun y h => by
    have h1 := h.1
    rw [bytes_entry] at h1
    have hr : reachBytes = 140737488351232 := rfl
    omega)
set_option maxRecDepth 100000 in
theorem opens_log : Opens Try.prog 33 (fun w cs (q : Int × Int × List EntP) => ∃ ev, cs = [.int .i64 q.1, .int .i64 q.2.1, ev] ∧ Ents (fun _ => True) w ev q.2.2) (fun q => q.2.2.length ≤ 3518437208780) := by
  intro H enc w base spare held n cs x hx
  obtain ⟨hl, hg⟩ := struct_at Try.underlying33 hx
  rw [cells_log] at hl
  match cs, hl with
  | [c0, c1, c2], _ =>
    obtain ⟨m0, y0, h0, _⟩ := hg 0 _ rfl
    obtain ⟨m1, y1, h1, _⟩ := hg 1 _ rfl
    obtain ⟨m2, y2, h2, hw2⟩ := hg 2 _ rfl
    have h0 : DataW.trod enc Try.prog w base spare held m0 3 (([c0, c1, c2].drop 0).take (Try.prog.cellsOf 3)) = some y0 := h0
    have h1 : DataW.trod enc Try.prog w base spare held m1 3 (([c0, c1, c2].drop 1).take (Try.prog.cellsOf 3)) = some y1 := h1
    have h2 : DataW.trod enc Try.prog w base spare held m2 31 (([c0, c1, c2].drop 2).take (Try.prog.cellsOf 31)) = some y2 := h2
    rw [cells_int] at h0 h1
    rw [cells_entries] at h2
    obtain ⟨a, ha, _⟩ := opens_int Try.underlying3 enc w base spare held m0 _ y0 h0
    obtain ⟨b, hb, _⟩ := opens_int Try.underlying3 enc w base spare held m1 _ y1 h1
    obtain ⟨l, ⟨v, hv, hs⟩, hf⟩ := opens_entries enc w base spare held m2 _ y2 h2
    obtain rfl : c0 = .int .i64 a := by simpa using ha
    obtain rfl : c1 = .int .i64 b := by simpa using hb
    obtain rfl : c2 = v := by simpa using hv
    exact ⟨⟨a, b, l⟩, ⟨c2, rfl, hs⟩, fun hw => hf (hw2 hw)⟩
end Go.Proofs.Ytgdmcbjlfnjhjaa.Opn
