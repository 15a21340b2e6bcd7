/-
  The reference's map: the number of a key's pair.
-/
import Derived.Test.YtnmlkoidmacinaaDoorKb
namespace Go.Proofs.YtnmlkoidmacinaaDoor
open Go.RowKit Wm Mm Dg Kv
set_option linter.unusedVariables false
set_option linter.unusedSimpArgs false

def getR (l : List PairP) (key : List UInt8) : Int := if isK l key then (place l key : Int) else -1

set_option maxHeartbeats 1000000 in
theorem refGet_law (key : List UInt8) (v : Value) (l : List PairP) (F : Nat → Prop) (w : World) (h : Prs F w v l) (ho : OkPs l) :
    Calls Tryd.prog 44 #[v, str key] w fun e w' => e = .returned (.int .i64 (getR l key)) ∧ w = w' := by
  obtain ⟨post, HP⟩ := hide (fun (e : Ending) (w' : World) => e = .returned (.int .i64 (getR l key)) ∧ w = w')
  rw [HP.out]
  obtain ⟨ao, cap, rfl, hcap, hmax⟩ := h.slice
  have HF := Lib.hid h
  have Ho := Lib.hid ho
  have hn32 := ho.n
  obtain ⟨n, hn⟩ := hide l.length
  rw [hn.out] at hn32 hcap hmax
  rw [hn.out]
  clear h ho
  go_enter Tryd.func44, Tryd.ntmps44
  go_wp2_with fail
  go_loopw [5] (fun i wr => ∃ k : Nat, i = .int .i64 k ∧ k ≤ n ∧ w = wr ∧ Hid (∀ j (hj : j < l.length), j < k → l[j].key ≠ key)) (fun i _ => n - (intOf i).toNat)
  case atStart => exact ⟨0, rfl, Nat.zero_le _, rfl, fun j hj h => by omega⟩
  case round =>
    obtain ⟨k, rfl, hk, rfl, hx⟩ := hrel
    by_cases hlt : k < n
    · have hkl : k < l.length := by rw [hn.out]; exact hlt
      obtain ⟨b, off, e1, c0, c1, c2⟩ := Sl.three (n := n) (by have := HF.out; rw [hn.out] at this; exact this) hkl
      subst e1
      clear c1 c2
      have hki : (k : Int) < (n : Int) := by omega
      by_cases he : l[k].key = key
      · have t : (l[k].key == key) = true := beq_iff_eq.2 he
        have HE : Hid (post (.returned (.int .i64 (k : Int))) w) := by
          show post _ _
          rw [← HP.out]
          have hi : isK l key = true := by
            cases hi : isK l key
            · exact absurd he (isK_no Ho.out hi hkl)
            · rfl
          have hp : place l key = k := place_of (by omega) (fun i hi2 hik => by rw [← he]; exact Ho.out.lt k hik hkl) (fun _ => by rw [he]; exact lt_irr _)
          exact ⟨by unfold getR; rw [hi, if_pos rfl, hp], rfl⟩
        obtain ⟨yk, hyk⟩ := hide l[k].key
        rw [hyk.out] at c0 t
        clear he
        go_wp2_with fail
        exact HE.out
      · have t : (l[k].key == key) = false := beq_eq_false_iff_ne.2 he
        have Hx : Hid (∀ j (hj : j < l.length), j < k + 1 → l[j].key ≠ key) := fun j hj h => by
          rcases Nat.lt_or_eq_of_le (Nat.le_of_lt_succ h) with h1 | rfl
          · exact hx.out j hj h1
          · exact he
        obtain ⟨yk, hyk⟩ := hide l[k].key
        rw [hyk.out] at c0 t
        clear he
        go_wp2_with fail
        go_roundw
        case rel => exact ⟨k + 1, by go_num, hlt, by first | trivial | rfl, Hx⟩
        case measure => simp [intOf]; omega
    · obtain rfl : k = n := by omega
      have HE : Hid (post (.returned (.int .i64 (-1))) w) := by
        show post _ _
        rw [← HP.out]
        have hi : isK l key = false := by
          cases hi : isK l key
          · rfl
          · obtain ⟨h1, h2⟩ := isK_at hi
            exact absurd h2 (hx.out _ h1 (by rw [← hn.out]; exact h1))
        exact ⟨by unfold getR; rw [hi]; rfl, rfl⟩
      go_wp2_with fail
      exact HE.out
end Go.Proofs.YtnmlkoidmacinaaDoor
