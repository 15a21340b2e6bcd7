/-
  Files: rows, the closures of world.Act, the search, copies, comparing. Files of a node (package wal): is a name there already?
-/
import Derived.Test.YtjlhlmnoomiblaaZ02
import Derived.Test.YtjlhlmnoomiblaaZ37
import Derived.Test.YtjlhlmnoomiblaaZ39
import Derived.Test.YtjlhlmnoomiblaaZ22
namespace Go.Proofs.Ytjlhlmnoomiblaa
open Go.RowKit Wm Mm Fl
set_option linter.unusedVariables false
set_option linter.unusedSimpArgs false

abbrev rowF (b : FileP) : List Value := [str b.nam, str b.dat]
abbrev Fls (F : Nat → Prop) (w : World) (v : Value) (l : List FileP) : Prop := Sl 2 (Plain rowF) F w v l
theorem info_fil : (Try.prog.info? 53).map (fun i => (i.zero, i.size, i.bytes)) = some (some (.agg #[.string ByteArray.empty, .string ByteArray.empty]), 2, 32) := by kernel_rfl
theorem zero_fil (w : World) : (zeroValue 53).run Try.prog w = .ok (.agg #[.string ByteArray.empty, .string ByteArray.empty]) w := by kernel_rfl
theorem rowF_len (b : FileP) : (rowF b).length = 2 := rfl
theorem rowF_one (b : FileP) : ∀ u ∈ rowF b, u.oneCell' = true := by intro u hu; simp at hu; rcases hu with rfl | rfl <;> rfl
abbrev OwnF (S : Nat) (w : World) (v : Value) (l : List FileP) : Prop := w.ownsRow S 53 2 v l.length (l.flatMap rowF)
theorem OwnF.fls {S : Nat} {w : World} {v : Value} {l : List FileP} (h : OwnF S w v l) : Fls (fun k => S ≤ k) w v l := Sl.own rowF rowF_len h (fun _ _ => rfl) (fun _ _ h _ => h)
theorem Sl.twoF {F : Nat → Prop} {w : World} {a : Option Addr} {n c : Nat} {l : List FileP} (h : Fls F w (.slice a n c) l) {k : Nat} (hk : k < l.length) :
    ∃ b off, a = some ⟨b, off, none⟩ ∧ w.cell? ⟨b, off + k * 2, none⟩ = some (str l[k].nam) ∧ w.cell? ⟨b, off + k * 2 + 1, none⟩ = some (str l[k].dat) := by
  obtain ⟨b, off, us, e, _, _, hus, hcs⟩ := h.at hk
  have hus' : us = rowF l[k] := hus
  subst hus'
  exact ⟨b, off, e, hcs 0 _ rfl, hcs 1 _ rfl⟩
theorem getF_two : ∀ (l : List FileP) (k : Nat) (hk : k < l.length), (l.flatMap rowF)[k * 2]? = some (str l[k].nam) ∧ (l.flatMap rowF)[k * 2 + 1]? = some (str l[k].dat) := by
  intro l
  induction l with
  | nil => intro k hk; simp at hk
  | cons a r ih =>
    intro k hk
    cases k with
    | zero => exact ⟨rfl, rfl⟩
    | succ k =>
      have := ih k (by simpa using hk)
      rw [List.flatMap_cons, show (k + 1) * 2 = k * 2 + 1 + 1 from by omega]
      exact this
theorem flatF_set2 : ∀ (l : List FileP) (k : Nat) (y : FileP), k < l.length → ((l.flatMap rowF).set (k * 2) (str y.nam)).set (k * 2 + 1) (str y.dat) = (l.set k y).flatMap rowF
  | a :: r, 0, y, _ => rfl
  | a :: r, k + 1, y, h => by
    have ih := flatF_set2 r k y (by simpa using h)
    rw [List.set_cons_succ, List.flatMap_cons, List.flatMap_cons, ← ih, show (k + 1) * 2 = k * 2 + 1 + 1 from by omega]
    rfl
theorem flatF_take2 : ∀ (l : List FileP) (k : Nat), (l.flatMap rowF).take (k * 2) = (l.take k).flatMap rowF
  | _, 0 => by simp
  | [], k + 1 => by simp
  | a :: r, k + 1 => by
    rw [List.flatMap_cons, show (k + 1) * 2 = k * 2 + 1 + 1 from by omega, List.take_succ_cons, List.flatMap_cons, ← flatF_take2 r k]
    rfl
abbrev oAct (a : ActP) : Array Value := #[.int .i64 a.what, str a.nam, str a.to, str a.dat, .int .i64 a.size]
def pName (a : ActP) (f : FileP) : Bool := f.nam == a.nam
def pBoth (a : ActP) (f : FileP) : Bool := f.nam == a.nam || f.nam == a.to

/-- the place of the first that is meant, or how many there are -/
structure First (p : FileP → Bool) (l : List FileP) (k : Nat) : Prop where
  le : k ≤ l.length
  lo : ∀ i (hi : i < l.length), i < k → p l[i] = false
  at_ : ∀ (hk : k < l.length), p l[k] = true
def placeI (l : List FileP) (k : Nat) : Int := if k < l.length then (k : Int) else -1

end Go.Proofs.Ytjlhlmnoomiblaa

namespace Go.Proofs.Ytjlhlmnoomiblaa
open Go.RowKit Wm Mm Fl
set_option linter.unusedVariables false
set_option linter.unusedSimpArgs false

def pNam (f g : FileP) : Bool := g.nam == f.nam
set_option maxHeartbeats 1000000 in
theorem op1_law (f : FileP) (B : Nat) (g : FileP) (w : World) (h : w.heap[B]? = some (.cells (rowF f).toArray 53 (0, 0))) :
    Calls Try.prog 15 #[.agg #[str g.nam, str g.dat], .pointer (some ⟨B, 0, none⟩)] w fun e w' => e = .returned (.bool (pNam f g)) ∧ Below w.heap.size w w' := by
  obtain ⟨V, hV⟩ := hide (w.alloc (.cells #[str g.nam, str g.dat] 53))
  obtain ⟨C, hC⟩ := hide w.heap.size
  have h1 : V.heap[C]? = some (.cells #[str g.nam, str g.dat] 53 (0, 0)) := by rw [← hV.out, ← hC.out]; exact hp_at _ _ rfl
  have h2 : V.heap[B]? = some (.cells (rowF f).toArray 53 (0, 0)) := by rw [← hV.out]; exact (hp_past _ _ (by have := lt_of_block h; omega)).trans h
  have c0 := cell_n h1 0 (v := str g.nam) rfl
  have c1 := cell_n h2 0 (v := str f.nam) rfl
  have hb : Hid (Below w.heap.size w V) := by show Below _ _ _; rw [← hV.out]; exact (Below.refl _ _).alloc (Nat.le_refl _) _
  clear h h1 h2
  go_enter Try.func15, Try.ntmps15
  go_upto_region 1 with fail
  rw [hV.out, hC.out]
  go_wp2_with fail
  go_ret
  exact ⟨rfl, hb.out⟩
set_option maxHeartbeats 1000000 in
theorem index_op (p : FileP → Bool) (B : Nat) (v : Value) (l : List FileP) (F : Nat → Prop) (w : World) (h : Fls F w v l)
    (hp : ∀ f w', Below w.heap.size w w' → Calls Try.prog 15 #[.agg #[str f.nam, str f.dat], .pointer (some ⟨B, 0, none⟩)] w' fun e w'' => e = .returned (.bool (p f)) ∧ Below w'.heap.size w' w'') :
    Calls Try.prog 25 #[v, .func (.func 15) #[] #[.pointer (some ⟨B, 0, none⟩)]] w fun e w' => ∃ k, First p l k ∧ e = .returned (.int .i64 (placeI l k)) ∧ Below w.heap.size w w' := by
  obtain ⟨ao, cap, rfl, hcap, hmax⟩ := h.slice
  have HF : Hid (∀ w', Below w.heap.size w w' → Fls F w' (.slice ao l.length cap) l) := fun w' hb => h.frame (Plain.good _) (Agree.below hb)
  have HP := Lib.hid hp
  clear h hp
  go_enter Try.func25, Try.ntmps25
  go_wp2_with fail
  go_loopw [8] (fun i wr => ∃ k : Nat, i = .int .i64 k ∧ k ≤ l.length ∧ Hid (∀ j (hj : j < l.length), j < k → p l[j] = false) ∧ Hid (Below w.heap.size w wr)) (fun i _ => l.length - (intOf i).toNat)
  case atStart => exact ⟨0, rfl, Nat.zero_le _, fun j _ h => by omega, Below.refl _ _⟩
  case round =>
    obtain ⟨k, rfl, hkl, hlo, hb⟩ := hrel
    by_cases hlt : k < l.length
    · obtain ⟨b, off, rfl, c0, c1⟩ := Sl.twoF (HF.out _ hb.out) hlt
      have KP := Lib.hid (HP.out l[k] wr hb.out)
      have HS : Hid (p l[k] = false → ∀ j (hj : j < l.length), j < k + 1 → p l[j] = false) := fun hh j hj hj2 => by
        rcases Nat.lt_or_ge j k with h1 | h1
        · exact hlo.out j hj h1
        · have : j = k := by omega
          subst this
          exact hh
      have HA : Hid (p l[k] = true → First p l k) := fun hh => ⟨hkl, hlo.out, fun _ => hh⟩
      obtain ⟨y, hy⟩ := hide l[k]
      rw [hy.out] at c0 c1 KP HS HA
      cases hq : p y
      · rw [hq] at KP
        have HK := Lib.hid (HS.out hq)
        go_wp2_with (go_at_call 15; refine KP.out.mono ?_; rintro e w' ⟨rfl, hb1⟩)
        have Hb1 := Lib.hid (hb.out.trans (hb1.mono hb.out.size))
        clear hb1
        go_wp2_with fail
        go_roundw
        case rel => exact ⟨k + 1, by go_num, by omega, HK, Hb1⟩
        case measure => simp [intOf]; omega
      · rw [hq] at KP
        have HK := Lib.hid (HA.out hq)
        have hpl : Hid (placeI l k = (k : Int)) := by show _ = _; unfold placeI; rw [if_pos hlt]
        go_wp2_with (go_at_call 15; refine KP.out.mono ?_; rintro e w' ⟨rfl, hb1⟩)
        have Hb1 := Lib.hid (hb.out.trans (hb1.mono hb.out.size))
        clear hb1
        go_wp2_with fail
        go_ret
        exact ⟨k, HK.out, by rw [hpl.out] <;> rfl, Hb1.out⟩
    · obtain rfl : k = l.length := by omega
      have hpl : Hid (placeI l l.length = -1) := by show _ = _; unfold placeI; rw [if_neg (by omega)]
      have HK : Hid (First p l l.length) := ⟨Nat.le_refl _, hlo.out, fun h => by omega⟩
      go_wp2_with fail
      go_ret
      exact ⟨l.length, HK.out, by rw [hpl.out] <;> rfl, hb.out⟩


set_option maxHeartbeats 1000000 in
/-- has one of them that name? -/
theorem contains_op (f : FileP) (B : Nat) (v : Value) (l : List FileP) (F : Nat → Prop) (w : World) (h : Fls F w v l) (hB : w.heap[B]? = some (.cells (rowF f).toArray 53 (0, 0))) :
    Calls Try.prog 14 #[v, .func (.func 15) #[] #[.pointer (some ⟨B, 0, none⟩)]] w fun e w' => e = .returned (.bool (l.any (pNam f))) ∧ Below w.heap.size w w' := by
  have HI := Lib.hid (index_op (pNam f) B v l F w h (fun g w' hb => op1_law f B g w' ((hb.block B (lt_of_block hB)).trans hB)))
  obtain ⟨ao, cap, rfl, hcap, hmax⟩ := h.slice
  obtain ⟨q, hq⟩ := hide (l.any (pNam f))
  have HQ : Hid (∀ k, First (pNam f) l k → ((k < l.length → q = true) ∧ (¬ k < l.length → q = false))) := by
    show ∀ k, _ → _
    intro k hk
    rw [← hq.out]
    refine ⟨fun h => List.any_eq_true.2 ⟨l[k], List.getElem_mem h, hk.at_ h⟩, fun h => ?_⟩
    rw [List.any_eq_false]
    intro x hx
    obtain ⟨i, hi, rfl⟩ := List.getElem_of_mem hx
    have := hk.le
    simp [hk.lo i hi (by omega)]
  rw [hq.out]
  clear h hB hmax hcap
  go_enter Try.func14, Try.ntmps14
  go_wp2_with fail
  refine HI.out.mono ?_
  rintro e w1 ⟨k, hk, rfl, hb⟩
  have Hb := Lib.hid hb
  have hk2 := HQ.out k hk
  clear hb hk HI
  by_cases hlt : k < l.length
  · have e1 : placeI l k = (k : Int) := by unfold placeI; rw [if_pos hlt]
    obtain rfl := hk2.1 hlt
    have t0 : decide ((0 : Int) ≤ (k : Int)) = true := decide_eq_true (by omega)
    rw [e1]
    clear hlt hk2 e1
    go_wp2_with fail
    go_ret
    exact ⟨rfl, Hb.out⟩
  · have e1 : placeI l k = -1 := by unfold placeI; rw [if_neg hlt]
    obtain rfl := hk2.2 hlt
    rw [e1]
    clear hlt hk2 e1
    go_wp2_with fail
    go_ret
    exact ⟨rfl, Hb.out⟩
end Go.Proofs.Ytjlhlmnoomiblaa
