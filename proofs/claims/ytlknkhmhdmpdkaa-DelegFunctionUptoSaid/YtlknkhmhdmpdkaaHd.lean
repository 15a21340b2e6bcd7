/-
  DelegFunction: what the law makes, in plain Lean.
-/
import Derived.Test.YtlknkhmhdmpdkaaHc
namespace Go.Proofs.Ytlknkhmhdmpdkaa
open Go.RowKit Wm Mm Dg
open Lg (pickP pickP_lt)
set_option linter.unusedVariables false
set_option linter.unusedSimpArgs false

def tame (g : GivenP) : GivenP := ⟨keyP g.frm, keyP g.upto, 1 + (pickP g.host 9 : Nat)⟩
def give (d : List BoundP) (g : GivenP) : List BoundP := setP d (tame g).frm (tame g).upto (tame g).host
def keysG (g : GivenP) : List (List UInt8) := [(tame g).frm, (tame g).upto, (tame g).frm ++ [97]]
def Ck (raw : List GivenP) (k : Nat) : List GivenP := (raw.take k).map tame ++ raw.drop k
def Dk (raw : List GivenP) (k : Nat) : List BoundP := (raw.take k).foldl give [⟨[], 1⟩]
def Kk (more : List (List UInt8)) (raw : List GivenP) (k : Nat) : List (List UInt8) := more ++ (raw.take k).flatMap keysG
def wantStep (key : List UInt8) (h : Int) (g : GivenP) : Int := if within key g.frm g.upto then g.host else h
def wantP (key : List UInt8) (G : List GivenP) : Int := G.foldl (wantStep key) 1

theorem take_one {α : Type} (l : List α) {k : Nat} (h : k < l.length) : l.take (k + 1) = l.take k ++ [l[k]] := by rw [List.take_add_one, List.getElem?_eq_getElem h]; rfl
theorem Ck_len (raw : List GivenP) {k : Nat} (h : k ≤ raw.length) : (Ck raw k).length = raw.length := by
  unfold Ck
  rw [List.length_append, List.length_map, List.length_take, List.length_drop]
  omega
theorem Ck_at (raw : List GivenP) {k : Nat} (h : k < raw.length) : (Ck raw k)[k]? = some raw[k] := by
  unfold Ck
  rw [List.getElem?_append_right (by rw [List.length_map, List.length_take]; omega), List.length_map, List.length_take, Nat.min_eq_left (by omega), Nat.sub_self, List.getElem?_drop, Nat.add_zero, List.getElem?_eq_getElem h]
theorem Ck_set (raw : List GivenP) {k : Nat} (h : k < raw.length) : (Ck raw k).set k (tame raw[k]) = Ck raw (k + 1) := by
  unfold Ck
  rw [take_one raw h, List.map_append]
  rw [List.set_append_right _ _ (by rw [List.length_map, List.length_take]; omega)]
  rw [List.length_map, List.length_take, Nat.min_eq_left (by omega), Nat.sub_self, List.append_assoc]
  congr 1
  rw [List.drop_eq_getElem_cons h]
  rfl
theorem Ck_next (raw : List GivenP) {k : Nat} (h : k < raw.length) : (Ck raw (k + 1))[k]? = some (tame raw[k]) := by
  rw [← Ck_set raw h, List.getElem?_set_self (by rw [Ck_len raw (by omega)]; exact h)]
theorem Ck_all (raw : List GivenP) : Ck raw raw.length = raw.map tame := by unfold Ck; rw [List.take_length, List.drop_length, List.append_nil]
theorem Dk_step (raw : List GivenP) {k : Nat} (h : k < raw.length) : Dk raw (k + 1) = give (Dk raw k) raw[k] := by unfold Dk; rw [take_one raw h, List.foldl_append]; rfl
theorem Kk_step (more : List (List UInt8)) (raw : List GivenP) {k : Nat} (h : k < raw.length) : Kk more raw (k + 1) = Kk more raw k ++ keysG raw[k] := by unfold Kk; rw [take_one raw h, List.flatMap_append, List.append_assoc]; simp
theorem tame_ok (g : GivenP) : 1 ≤ (tame g).host ∧ (tame g).host ≤ 9 ∧ (tame g).frm.length ≤ 16 ∧ (tame g).upto.length ≤ 16 := by
  have := pickP_lt (c := g.host) (n := 9) (by decide)
  refine ⟨?_, ?_, keyP_len _, keyP_len _⟩ <;> (unfold tame; simp only []; omega)
theorem Dk_ok (raw : List GivenP) : ∀ k, k ≤ raw.length → okB (Dk raw k) = true
  | 0, _ => by unfold Dk; exact known_ok
  | k + 1, h => by
    rw [Dk_step raw (by omega)]
    have ht := tame_ok raw[k]
    exact ok_set (Dk_ok raw k (by omega)) ht.1 ht.2.1 ht.2.2.1 ht.2.2.2
theorem Dk_len (raw : List GivenP) : ∀ k, k ≤ raw.length → (Dk raw k).length ≤ 2 * k + 1
  | 0, _ => by unfold Dk; simp
  | k + 1, h => by
    rw [Dk_step raw (by omega)]
    have h1 := set_len (Dk raw k) (tame raw[k]).frm (tame raw[k]).upto (tame raw[k]).host
    have h2 := Dk_len raw k (by omega)
    unfold give
    omega
theorem Kk_len (more : List (List UInt8)) (raw : List GivenP) : ∀ k, k ≤ raw.length → (Kk more raw k).length = more.length + 3 * k
  | 0, _ => by unfold Kk; simp
  | k + 1, h => by
    rw [Kk_step more raw (by omega), List.length_append, Kk_len more raw k (by omega)]
    unfold keysG
    simp only [List.length_cons, List.length_nil]
    omega
theorem Dk_host (raw : List GivenP) (key : List UInt8) : ∀ k, k ≤ raw.length → hostOf key (Dk raw k) = wantP key ((raw.take k).map tame)
  | 0, _ => by
    unfold Dk wantP
    show hostUp key 0 [⟨[], 1⟩] = 1
    rw [hostUp_cons, if_pos (by rw [le_not, lt_nil]; rfl)]
    rfl
  | k + 1, h => by
    rw [Dk_step raw (by omega)]
    unfold give
    rw [host_set (Dk_ok raw k (by omega)), Dk_host raw key k (by omega), take_one raw (by omega), List.map_append]
    unfold wantP
    rw [List.foldl_append]
    rfl
theorem want_take (key : List UInt8) (G : List GivenP) {j : Nat} (h : j < G.length) : wantP key (G.take (j + 1)) = if within key G[j].frm G[j].upto then G[j].host else wantP key (G.take j) := by
  unfold wantP
  rw [take_one G h, List.foldl_append]
  rfl
end Go.Proofs.Ytlknkhmhdmpdkaa
