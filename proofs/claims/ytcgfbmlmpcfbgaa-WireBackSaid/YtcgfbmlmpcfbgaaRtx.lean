/-
  What is written comes back: requests, entries, configurations, messages with entries. Plain Lean.
-/
import Derived.Test.YtcgfbmlmpcfbgaaMsr
import Derived.Test.YtcgfbmlmpcfbgaaRqh
import Derived.Test.YtcgfbmlmpcfbgaaWq
namespace Go.Proofs.Ytcgfbmlmpcfbgaa
open Go.RowKit Wm Mm Lg
set_option linter.unusedVariables false
set_option linter.unusedSimpArgs false

theorem rdCmd_put {k i : Nat} {key val : List UInt8} (h1 : k ≤ 1099511627775) (h2 : key.length ≤ 16) (h3 : val.length ≤ 64) (h4 : i ≤ 1099511627775) (s : List UInt8) :
    rdCmd (putCmd k key val i ++ s) = .ok (⟨k, key, val, i⟩, s) := by
  unfold rdCmd putCmd
  rw [List.append_assoc, rdNum_put h1]
  simp only []
  rw [List.append_assoc, rdText_put key (by omega) h2]
  simp only []
  rw [List.append_assoc, rdText_put val (by omega) h3]
  simp only []
  rw [rdNum_put h4]
theorem rdReq_put {c n k i t : Nat} {key val : List UInt8} (h0 : c ≠ 0) (hok : okReq c n k key val i t = true) (s : List UInt8) :
    rdReq (putReq c n k key val i t ++ s) = .ok (⟨c, n, ⟨k, key, val, i⟩, t⟩, s) := by
  have hok' := hok
  unfold okReq at hok'
  rw [if_neg (by omega)] at hok'
  simp only [Bool.and_eq_true] at hok'
  obtain ⟨⟨⟨h1, h2⟩, h3⟩, h4⟩ := hok'
  have b1 := inB_of h1
  have b2 := inB_of h2
  have b3 := inB_of h3
  obtain ⟨hk1, hk2, hk3, hk4⟩ := isCommand_facts h4
  have b4 := inB_of hk1
  have b5 := inB_of hk4
  rw [putReq, if_pos hok, if_neg (by omega)]
  unfold rdReq
  simp only [Int.toNat_natCast, List.append_assoc]
  rw [rdNum_put (by omega)]
  simp only []
  rw [rdNum_put (by omega)]
  simp only []
  rw [rdNum_put (by omega)]
  simp only []
  rw [if_neg h0, rdCmd_put (by omega) hk2 hk3 (by omega)]
  simp only []
  rw [if_pos h4]
theorem rdEnt_put {i t k : Nat} {d : List UInt8} (hok : isEntry i t k d = true) (s : List UInt8) : rdEnt (putEnt i t k d ++ s) = .ok (⟨i, t, k, d⟩, s) := by
  have hok' := hok
  simp only [isEntry, Bool.and_eq_true, decide_eq_true_eq] at hok'
  obtain ⟨h1, h2, h3, h4, _⟩ := hok'
  have b1 := inB_of h1
  have b2 := inB_of h2
  have b3 := inB_of h3
  unfold rdEnt putEnt
  rw [List.append_assoc, rdNum_put (by omega)]
  simp only []
  rw [List.append_assoc, rdNum_put (by omega)]
  simp only []
  rw [List.append_assoc, rdNum_put (by omega)]
  simp only []
  rw [rdText_put d (by omega) h4]
  simp only []
  rw [if_pos hok]
theorem rdList_put {l : List Nat} (h : ∀ n ∈ l, n ≤ 9) (h9 : l.length ≤ 9) (s : List UInt8) : rdList 9 (putList l ++ s) = .ok (l, s) := by
  unfold rdList putList
  rw [List.append_assoc, rdUpTo_put (by omega) h9]
  simp only []
  have := rdMany_put l [] s (fun n hn => by have := h n hn; omega)
  rw [List.nil_append] at this
  exact this
theorem rdConf_put {c : Conf} (hok : validB c = true) (s : List UInt8) : rdConf (putConf c ++ s) = .ok (c, s) := by
  obtain ⟨m1, m2, m3, rfl, a1, a2, a3, b1, b2, b3⟩ := valid_facts hok
  unfold rdConf putConf
  simp only [natL_ints, List.append_assoc]
  rw [rdList_put a1 b1]
  simp only []
  rw [rdList_put a2 b2]
  simp only []
  rw [rdList_put a3 b3]
  simp only []
  rw [if_pos hok]
/-- an append of one entry -/
abbrev appMsg (f d t i l c x : Nat) (e : Ent) : Msg := ⟨5, f, d, t, i, l, c, [entOf e], 0, 0, noConf, [], false, 0, x⟩
theorem rdMsg_put {f d t i l c x : Nat} {e : Ent} (hok : isMsg (appMsg f d t i l c x e) = true) (s : List UInt8) : rdMsg (putMsg (appMsg f d t i l c x e) ++ s) = .ok (appMsg f d t i l c x e, s) := by
  have hm := hok
  simp only [isMsg, headM, numsM, bodyM, big, Bool.and_eq_true, decide_eq_true_eq] at hm
  obtain ⟨_, ⟨_, h1, h2, _, h3, _⟩, ⟨h4, h5, h6, _, h7⟩, h8⟩ := hm
  rw [if_pos trivial] at h8
  simp only [Bool.and_eq_true, followB] at h8
  obtain ⟨_, _, _, h9, _⟩ := h8
  have b1 := inB_of h1
  have b2 := inB_of h2
  have b3 := inB_of h3
  have b4 := inB_of h4
  have b5 := inB_of h5
  have b6 := inB_of h6
  have b7 := inB_of h7

  have ep : putMsg (appMsg f d t i l c x e) ++ s = putNum 5 ++ (putNum f ++ (putNum d ++ (putNum t ++ (putNum i ++ (putNum l ++ (putNum c ++ (putNum x ++ (putNum 1 ++ (putEnt e.index e.term e.kind e.data ++ s))))))))) := by
    simp [putMsg, putTail, putEnts]
  rw [ep]
  unfold rdMsg
  rw [rdNum_put (by omega)]
  simp only []
  rw [rdNum_put (by omega)]
  simp only []
  rw [rdNum_put (by omega)]
  simp only []
  rw [rdNum_put (by omega)]
  simp only []
  rw [rdTail, if_neg (by omega), if_neg (by omega), if_pos rfl, rdApp]
  rw [rdNum_put (by omega)]
  simp only []
  rw [rdNum_put (by omega)]
  simp only []
  rw [rdNum_put (by omega)]
  simp only []
  rw [rdNum_put (by omega)]
  simp only []
  rw [rdAppE, rdUpTo_put (by omega) (by omega)]
  simp only [rdEnts]
  rw [rdEnt_put h9]
  simp only [okMsg]
  have e5 : ((5 : Nat) : Int) = 5 := rfl
  simp only [List.nil_append, e5]
  rw [if_pos hok]
end Go.Proofs.Ytcgfbmlmpcfbgaa
