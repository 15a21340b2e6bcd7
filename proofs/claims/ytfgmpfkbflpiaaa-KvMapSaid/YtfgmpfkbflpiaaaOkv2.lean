/-
  Opening arguments: commands, whose texts are no longer than what can be read.
-/
import Derived.Test.YtfgmpfkbflpiaaaOkv
namespace Go.Proofs.Ytfgmpfkbflpiaaa.Opn
open Go.ChangeShapes Go.WideShapes Go.ChangeAt Go.RowKit Wm Mm Kv
set_option linter.unusedVariables false
set_option maxRecDepth 100000 in
theorem opens_cmd2 : Opens Try.prog 30 (fun _ cs (e : CmdP) => cs = rowCmd e) (fun e => e.key.length ≤ 9223372036854775807 ∧ e.val.length ≤ 9223372036854775807) := by
  intro H enc w base spare held n cs x hx
  obtain ⟨hl, hg⟩ := struct_at Try.underlying30 hx
  rw [cells_cmd] at hl
  match cs, hl with
  | [c0, c1, c2, c3], _ =>
    obtain ⟨m0, y0, h0, _⟩ := hg 0 _ rfl
    obtain ⟨m1, y1, h1, hw1⟩ := hg 1 _ rfl
    obtain ⟨m2, y2, h2, hw2⟩ := hg 2 _ rfl
    obtain ⟨m3, y3, h3, _⟩ := hg 3 _ rfl
    have h0 : DataW.trod enc Try.prog w base spare held m0 3 (([c0, c1, c2, c3].drop 0).take (Try.prog.cellsOf 3)) = some y0 := h0
    have h1 : DataW.trod enc Try.prog w base spare held m1 9 (([c0, c1, c2, c3].drop 1).take (Try.prog.cellsOf 9)) = some y1 := h1
    have h2 : DataW.trod enc Try.prog w base spare held m2 9 (([c0, c1, c2, c3].drop 2).take (Try.prog.cellsOf 9)) = some y2 := h2
    have h3 : DataW.trod enc Try.prog w base spare held m3 3 (([c0, c1, c2, c3].drop 3).take (Try.prog.cellsOf 3)) = some y3 := h3
    rw [cells_intK] at h0 h3
    rw [cells_strK] at h1 h2
    obtain ⟨a0, b0, _⟩ := opens_int Try.underlying3 enc w base spare held m0 _ y0 h0
    obtain ⟨a1, b1, g1⟩ := opens_str Try.underlying9 enc w base spare held m1 _ y1 h1
    obtain ⟨a2, b2, g2⟩ := opens_str Try.underlying9 enc w base spare held m2 _ y2 h2
    obtain ⟨a3, b3, _⟩ := opens_int Try.underlying3 enc w base spare held m3 _ y3 h3
    obtain rfl : c0 = .int .i64 a0 := by simpa using b0
    obtain rfl : c1 = str a1 := by simpa using b1
    obtain rfl : c2 = str a2 := by simpa using b2
    obtain rfl : c3 = .int .i64 a3 := by simpa using b3
    have hr : reachBytes = 140737488351232 := rfl
    exact ⟨⟨a0, a1, a2, a3⟩, rfl, fun hw => ⟨by have := g1 (hw1 hw); show a1.length ≤ _; omega, by have := g2 (hw2 hw); show a2.length ≤ _; omega⟩⟩
theorem opens_cmds2 : Opens Try.prog 23 (fun w cs (l : List CmdP) => ∃ v, cs = [v] ∧ Cmds (fun _ => True) w v l) (fun l => l.length ≤ 2932031007320 ∧ ∀ c ∈ l, c.key.length ≤ 9223372036854775807 ∧ c.val.length ≤ 9223372036854775807) :=
  (opens_sl rowCmd Try.underlying23 cells_cmd (by decide) opens_cmd2).imp (fun w cs y h => h) (fun y h => by
    have h1 := h.1
    rw [bytes_cmd] at h1
    have hr : reachBytes = 140737488351232 := rfl
    exact ⟨by omega, h.2⟩)
end Go.Proofs.Ytfgmpfkbflpiaaa.Opn
