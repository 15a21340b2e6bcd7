/-
  Opening arguments: pairs, commands, and slices of them.
-/
import Derived.Test.YtnmlkoidmacinaaDoorOg
import Derived.Test.YtnmlkoidmacinaaDoorKv
namespace Go.Proofs.YtnmlkoidmacinaaDoor.Opn
open Go.ChangeShapes Go.WideShapes Go.ChangeAt Go.RowKit Wm Mm Kv
set_option linter.unusedVariables false
theorem cells_intK : Tryd.prog.cellsOf 3 = 1 := by kernel_rfl
theorem cells_strK : Tryd.prog.cellsOf 9 = 1 := by kernel_rfl
theorem cells_boolK : Tryd.prog.cellsOf 4 = 1 := by kernel_rfl
theorem cells_pair : Tryd.prog.cellsOf 25 = 3 := by kernel_rfl
set_option maxRecDepth 100000 in
theorem opens_pair : Opens Tryd.prog 25 (fun _ cs (e : PairP) => cs = rowPair e) (fun _ => True) := by
  intro H enc w base spare held n cs x hx
  obtain ⟨hl, hg⟩ := struct_at Tryd.underlying25 hx
  rw [cells_pair] at hl
  match cs, hl with
  | [c0, c1, c2], _ =>
    obtain ⟨m0, y0, h0, _⟩ := hg 0 _ rfl
    obtain ⟨m1, y1, h1, _⟩ := hg 1 _ rfl
    obtain ⟨m2, y2, h2, _⟩ := hg 2 _ rfl
    have h0 : DataW.trod enc Tryd.prog w base spare held m0 9 (([c0, c1, c2].drop 0).take (Tryd.prog.cellsOf 9)) = some y0 := h0
    have h1 : DataW.trod enc Tryd.prog w base spare held m1 9 (([c0, c1, c2].drop 1).take (Tryd.prog.cellsOf 9)) = some y1 := h1
    have h2 : DataW.trod enc Tryd.prog w base spare held m2 3 (([c0, c1, c2].drop 2).take (Tryd.prog.cellsOf 3)) = some y2 := h2
    rw [cells_strK] at h0
    rw [cells_strK] at h1
    rw [cells_intK] at h2
    obtain ⟨a0, b0, _⟩ := opens_str Tryd.underlying9 enc w base spare held m0 _ y0 h0
    obtain ⟨a1, b1, _⟩ := opens_str Tryd.underlying9 enc w base spare held m1 _ y1 h1
    obtain ⟨a2, b2, _⟩ := opens_int Tryd.underlying3 enc w base spare held m2 _ y2 h2
    obtain rfl : c0 = str a0 := by simpa using b0
    obtain rfl : c1 = str a1 := by simpa using b1
    obtain rfl : c2 = .int .i64 a2 := by simpa using b2
    exact ⟨⟨a0, a1, a2⟩, rfl, fun _ => trivial⟩
theorem cells_cmd : Tryd.prog.cellsOf 37 = 4 := by kernel_rfl
set_option maxRecDepth 100000 in
theorem opens_cmd : Opens Tryd.prog 37 (fun _ cs (e : CmdP) => cs = rowCmd e) (fun _ => True) := by
  intro H enc w base spare held n cs x hx
  obtain ⟨hl, hg⟩ := struct_at Tryd.underlying37 hx
  rw [cells_cmd] at hl
  match cs, hl with
  | [c0, c1, c2, c3], _ =>
    obtain ⟨m0, y0, h0, _⟩ := hg 0 _ rfl
    obtain ⟨m1, y1, h1, _⟩ := hg 1 _ rfl
    obtain ⟨m2, y2, h2, _⟩ := hg 2 _ rfl
    obtain ⟨m3, y3, h3, _⟩ := hg 3 _ rfl
    have h0 : DataW.trod enc Tryd.prog w base spare held m0 3 (([c0, c1, c2, c3].drop 0).take (Tryd.prog.cellsOf 3)) = some y0 := h0
    have h1 : DataW.trod enc Tryd.prog w base spare held m1 9 (([c0, c1, c2, c3].drop 1).take (Tryd.prog.cellsOf 9)) = some y1 := h1
    have h2 : DataW.trod enc Tryd.prog w base spare held m2 9 (([c0, c1, c2, c3].drop 2).take (Tryd.prog.cellsOf 9)) = some y2 := h2
    have h3 : DataW.trod enc Tryd.prog w base spare held m3 3 (([c0, c1, c2, c3].drop 3).take (Tryd.prog.cellsOf 3)) = some y3 := h3
    rw [cells_intK] at h0
    rw [cells_strK] at h1
    rw [cells_strK] at h2
    rw [cells_intK] at h3
    obtain ⟨a0, b0, _⟩ := opens_int Tryd.underlying3 enc w base spare held m0 _ y0 h0
    obtain ⟨a1, b1, _⟩ := opens_str Tryd.underlying9 enc w base spare held m1 _ y1 h1
    obtain ⟨a2, b2, _⟩ := opens_str Tryd.underlying9 enc w base spare held m2 _ y2 h2
    obtain ⟨a3, b3, _⟩ := opens_int Tryd.underlying3 enc w base spare held m3 _ y3 h3
    obtain rfl : c0 = .int .i64 a0 := by simpa using b0
    obtain rfl : c1 = str a1 := by simpa using b1
    obtain rfl : c2 = str a2 := by simpa using b2
    obtain rfl : c3 = .int .i64 a3 := by simpa using b3
    exact ⟨⟨a0, a1, a2, a3⟩, rfl, fun _ => trivial⟩
theorem bytes_pair : Tryd.prog.bytesOf 25 = 40 := by kernel_rfl
theorem bytes_cmd : Tryd.prog.bytesOf 37 = 48 := by kernel_rfl
theorem opens_pairs : Opens Tryd.prog 22 (fun w cs (l : List PairP) => ∃ v, cs = [v] ∧ Prs (fun _ => True) w v l) (fun l => l.length ≤ 3518437208780) :=
  (opens_sl rowPair Tryd.underlying22 cells_pair (by decide) opens_pair).imp (fun w cs y h => h) (fun y h => by
    have h1 := h.1
    rw [bytes_pair] at h1
    have hr : reachBytes = 140737488351232 := rfl
    omega)
end Go.Proofs.YtnmlkoidmacinaaDoor.Opn
