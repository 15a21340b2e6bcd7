/-
  Plain: frames one behind the other, cut anywhere.
-/
import Derived.Test.YtbonmeogmjfkeaaTp
namespace Go.Proofs.Ytbonmeogmjfkeaa.Wm
set_option linter.unusedSimpArgs false
set_option linter.unusedVariables false

def cat (l : List (List UInt8)) : List UInt8 := l.flatMap frame
/-- where the first j frames end -/
def catE (l : List (List UInt8)) (j : Nat) : Nat := (cat (l.take j)).length
theorem cat_succ (l : List (List UInt8)) (j : Nat) (h : j < l.length) : cat (l.take (j + 1)) = cat (l.take j) ++ frame l[j] := by
  rw [List.take_succ_eq_append_getElem h, cat, List.flatMap_append]; simp [cat]
theorem cat_split (l : List (List UInt8)) (j : Nat) : cat l = cat (l.take j) ++ cat (l.drop j) := by
  unfold cat
  rw [← List.flatMap_append, List.take_append_drop]
theorem catE_succ (l : List (List UInt8)) (j : Nat) (h : j < l.length) : catE l (j + 1) = catE l j + (frame l[j]).length := by
  unfold catE; rw [cat_succ l j h, List.length_append]
theorem catE_all (l : List (List UInt8)) : catE l l.length = (cat l).length := by unfold catE; rw [List.take_length]
theorem cat_from (l : List (List UInt8)) (j : Nat) (h : j < l.length) : (cat l).drop (catE l j) = frame l[j] ++ (cat l).drop (catE l (j + 1)) := by
  have e1 := cat_split l j
  have e2 := cat_split l (j + 1)
  have d1 : (cat l).drop (catE l (j + 1)) = cat (l.drop (j + 1)) := by
    rw [e2, catE, List.drop_left]
  rw [d1]
  have d2 : (cat l).drop (catE l j) = cat (l.drop j) := by
    rw [e1, catE, List.drop_left]
  rw [d2, List.drop_eq_getElem_cons h, cat, List.flatMap_cons]; rfl
/-- what is left of the cut text behind j frames -/
def restAt (l : List (List UInt8)) (k j : Nat) : List UInt8 := ((cat l).take k).drop (catE l j)
theorem restAt_zero (l : List (List UInt8)) (k : Nat) : restAt l k 0 = (cat l).take k := by
  unfold restAt catE; simp [cat]
theorem restAt_whole (l : List (List UInt8)) (k j : Nat) (h : j < l.length) (hs : l[j].length ≤ 65536) (hk : catE l (j + 1) ≤ k) : unframe (restAt l k j) = .ok (l[j], restAt l k (j + 1)) := by
  have hE := catE_succ l j h
  have e1 : restAt l k j = frame l[j] ++ restAt l k (j + 1) := by
    unfold restAt
    rw [List.drop_take, cat_from l j h, List.take_append, List.take_of_length_le (by omega), List.drop_take]
    congr 2
    omega
  rw [e1, unframe_frame _ _ hs]
theorem restAt_end (l : List (List UInt8)) (k j : Nat) (hj : j ≤ l.length) (hs : ∀ x ∈ l, x.length ≤ 65536) (hk : catE l j ≤ k) (hn : j = l.length ∨ k < catE l (j + 1)) : unframe (restAt l k j) = .error 3 := by
  by_cases h : j < l.length
  · have hE := catE_succ l j h
    have hk2 : k < catE l (j + 1) := hn.resolve_left (by omega)
    have e1 : restAt l k j = (frame l[j]).take (k - catE l j) := by
      unfold restAt
      rw [List.drop_take, cat_from l j h, List.take_append_of_le_length (by omega)]
    rw [e1]
    exact unframe_cut _ _ (hs _ (List.getElem_mem _)) (by omega)
  · have hjn : j = l.length := by omega
    have e1 : restAt l k j = [] := by
      unfold restAt
      rw [hjn, catE_all]
      apply List.drop_eq_nil_of_le
      rw [List.length_take]
      omega
    rw [e1]; rfl
theorem cat_len (l : List (List UInt8)) (hs : ∀ x ∈ l, x.length ≤ 65536) : (cat l).length ≤ 65549 * l.length := by
  induction l with
  | nil => simp [cat]
  | cons x l ih =>
    have h1 := frame_len x (hs x (List.mem_cons_self ..))
    have h2 := ih (fun y hy => hs y (List.mem_cons_of_mem _ hy))
    unfold cat at *
    rw [List.flatMap_cons, List.length_append, List.length_cons]
    omega
theorem restAt_len (l : List (List UInt8)) (k j : Nat) : (restAt l k j).length ≤ (cat l).length := by
  unfold restAt
  rw [List.length_drop, List.length_take]
  omega
end Go.Proofs.Ytbonmeogmjfkeaa.Wm
