/-
  A frame of which some bytes of the body are turned (plain).
-/
import Derived.Test.YtbonmeogmjfkeaaTp
namespace Go.Proofs.Ytbonmeogmjfkeaa.Wm
set_option linter.unusedSimpArgs false
set_option linter.unusedVariables false

/-- the frame of Bd, of which the bytes from fr on are turned by ms -/
def turnX (Bd : List UInt8) (fr : Nat) (ms : List UInt8) : List UInt8 := putNum Bd.length ++ (Bd.take fr ++ xorL (Bd.drop fr) ms) ++ sumBytes (sum Bd)
theorem turnX_nil (Bd : List UInt8) (fr : Nat) : turnX Bd fr [] = frame Bd := by
  rw [turnX, xorL_nil, List.take_append_drop]; rfl
theorem turnX_len (Bd : List UInt8) (fr : Nat) (ms : List UInt8) : (turnX Bd fr ms).length = (frame Bd).length := by
  rw [← turnX_nil Bd fr]; simp only [turnX, List.length_append, xorL_len]
theorem xorL_get (l ms : List UInt8) (h : ms.length < l.length) : (xorL l ms)[ms.length]? = some l[ms.length] := by
  induction ms generalizing l with
  | nil => rw [xorL_nil]; simp [h]
  | cons m ms ih =>
    match l with
    | [] => simp at h
    | x :: l =>
      have := ih l (by simpa using h)
      simpa [xorL] using this
theorem xorL_set (l ms : List UInt8) (m : UInt8) (h : ms.length < l.length) : (xorL l ms).set ms.length (l[ms.length] ^^^ m) = xorL l (ms ++ [m]) := by
  induction ms generalizing l with
  | nil =>
    match l with
    | [] => simp at h
    | x :: l => simp [xorL, xorL_nil]
  | cons n ms ih =>
    match l with
    | [] => simp at h
    | x :: l =>
      have := ih l (by simpa using h)
      simpa [xorL] using this
theorem turnX_get (Bd : List UInt8) (fr : Nat) (ms : List UInt8) (h : fr + ms.length < Bd.length) : (turnX Bd fr ms)[(putNum Bd.length).length + fr + ms.length]? = some Bd[fr + ms.length] := by
  have hd : ms.length < (Bd.drop fr).length := by simp; omega
  have h1 := xorL_get (Bd.drop fr) ms hd
  have h2 : (Bd.drop fr)[ms.length] = Bd[fr + ms.length] := by simp
  rw [h2] at h1
  have ht : (Bd.take fr).length = fr := by simp; omega
  have hx : ms.length < (xorL (Bd.drop fr) ms).length := by rw [xorL_len]; exact hd
  unfold turnX
  rw [List.getElem?_append_left (by simp only [List.length_append, ht]; omega), List.getElem?_append_right (by omega), List.getElem?_append_right (by omega), ← h1]
  congr 1
  omega
theorem turnX_step (Bd : List UInt8) (fr : Nat) (ms : List UInt8) (m : UInt8) (h : fr + ms.length < Bd.length) :
    (turnX Bd fr ms).set ((putNum Bd.length).length + fr + ms.length) (Bd[fr + ms.length] ^^^ m) = turnX Bd fr (ms ++ [m]) := by
  have hd : ms.length < (Bd.drop fr).length := by simp; omega
  have h1 := xorL_set (Bd.drop fr) ms m hd
  have h2 : (Bd.drop fr)[ms.length] = Bd[fr + ms.length] := by simp
  rw [h2] at h1
  have ht : (Bd.take fr).length = fr := by simp; omega
  have hx : ms.length < (xorL (Bd.drop fr) ms).length := by rw [xorL_len]; exact hd
  unfold turnX
  rw [← h1, List.set_append_left _ _ (by simp only [List.length_append, ht]; omega), List.set_append_right _ _ (by omega), List.set_append_right _ _ (by omega)]
  congr 4
  omega
theorem xorL_zero (l ms : List UInt8) (h : ms.any (· != 0) = false) : xorL l ms = l := by
  induction ms generalizing l with
  | nil => exact xorL_nil l
  | cons m ms ih =>
    simp at h
    match l with
    | [] => rfl
    | x :: l => rw [xorL, ih l (by simpa using h.2), h.1]; simp
theorem turnX_good (Bd : List UInt8) (fr : Nat) (ms : List UInt8) (hb : Bd.length ≤ 65536) (h : ms.any (· != 0) = false) : unframe (turnX Bd fr ms) = .ok (Bd, []) := by
  have h1 : turnX Bd fr ms = frame Bd ++ [] := by rw [← turnX_nil Bd fr, turnX, turnX, xorL_zero _ _ h, xorL_nil, List.append_nil]
  rw [h1, unframe_frame _ _ hb]
theorem turnX_bad (Bd : List UInt8) (fr : Nat) (ms : List UInt8) (hb : Bd.length ≤ 65536) (h4 : ms.length ≤ 4) (hf : fr + ms.length ≤ Bd.length) (h : ms.any (· != 0) = true) : unframe (turnX Bd fr ms) = .error 2 := by
  have hs : (Bd.take fr).length + (Bd.drop fr).length = Bd.length := by simp; omega
  have := unframe_turned (Bd.take fr) (Bd.drop fr) ms (by omega) (by simp; omega) h4 (by simpa using h)
  rwa [hs, List.take_append_drop] at this
end Go.Proofs.Ytbonmeogmjfkeaa.Wm
