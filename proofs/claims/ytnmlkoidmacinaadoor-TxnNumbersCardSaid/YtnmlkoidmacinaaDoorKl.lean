/-
  The map's state: keys that begin with a text.
-/
import Derived.Test.YtnmlkoidmacinaaDoorKh
namespace Go.Proofs.YtnmlkoidmacinaaDoor
open Go.RowKit Wm Mm Dg Kv
set_option linter.unusedVariables false
set_option linter.unusedSimpArgs false

set_option maxHeartbeats 1000000 in
theorem litePrefix_law (key x : List UInt8) (w : World) (hx : x.length ≤ 9223372036854775807) : Calls Tryd.prog 74 #[str x, str key] w fun e w' => e = .returned (.bool (pre key x)) ∧ w = w' := by
  obtain ⟨post, HP⟩ := hide (fun (e : Ending) (w' : World) => e = .returned (.bool (pre key x)) ∧ w = w')
  rw [HP.out]
  by_cases h : key.length ≤ x.length
  · have t1 : decide (key.length ≤ x.length) = true := decide_eq_true h
    have e : pre key x = (x.take key.length == key) := by unfold pre; rw [t1]; rfl
    rw [e] at HP
    have HE : Hid (post (.returned (.bool (x.take key.length == key))) w) := by show post _ _; rw [← HP.out]; exact ⟨rfl, rfl⟩
    have h2 : (key.length : Int) ≤ (x.length : Int) := by omega
    clear e
    go_enter Tryd.func74, Tryd.ntmps74
    go_wp2_with fail
    exact HE.out
  · have t1 : decide (key.length ≤ x.length) = false := decide_eq_false h
    have e : pre key x = false := by unfold pre; rw [t1]; rfl
    rw [e] at HP
    have HE : Hid (post (.returned (.bool false)) w) := by show post _ _; rw [← HP.out]; exact ⟨rfl, rfl⟩
    clear h e
    go_enter Tryd.func74, Tryd.ntmps74
    go_wp2_with fail
    exact HE.out
theorem hasPrefix_law (key x : List UInt8) (w : World) (hx : x.length ≤ 9223372036854775807) : Calls Tryd.prog 54 #[str x, str key] w fun e w' => e = .returned (.bool (pre key x)) ∧ w = w' := by
  have K := Lib.hid (litePrefix_law key x w hx)
  obtain ⟨r, hr⟩ := hide (pre key x)
  rw [hr.out] at K ⊢
  go_enter Tryd.func54, Tryd.ntmps54
  go_wp2_with fail
  refine K.out.mono ?_
  rintro e w' ⟨rfl, rfl⟩
  go_wp2_with fail
  go_ret
  exact ⟨rfl, rfl⟩
end Go.Proofs.YtnmlkoidmacinaaDoor
