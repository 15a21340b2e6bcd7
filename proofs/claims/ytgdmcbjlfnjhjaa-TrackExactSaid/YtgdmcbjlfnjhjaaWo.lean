/-
  A number taken out of a list: the library's Clone walked, its DeleteFunc by its contract, with the closure.
-/
import Derived.Test.YtgdmcbjlfnjhjaaUni
namespace Go.Proofs.Ytgdmcbjlfnjhjaa
open Go.RowKit Wm Mm Go.Sort Go.Lib
set_option linter.unusedVariables false
set_option linter.unusedSimpArgs false

theorem own_emptyU (w : World) (e : TypeId) (size : Nat) : (w.alloc (.cells #[] e)).ownsRow w.heap.size e size (.slice (some ⟨w.heap.size, 0, none⟩) 0 0) 0 [] :=
  ⟨by simp, .inr ⟨w.heap.size, 0, #[], rfl, Nat.le_refl _, hp_at _ _ rfl, Nat.le_refl _, by unfold maxLen; omega, by simp, by simp⟩⟩
set_option maxHeartbeats 1000000 in
theorem clone_i (v : Value) (l : List Int) (w : World) (h : Ints w v l) (hn : l.length ≤ 1099511627776) :
    Calls Try.prog 67 #[v] w fun e w' => ∃ v', e = .returned v' ∧ OwnI w.heap.size w' v' l ∧ Below w.heap.size w w' := by
  obtain ⟨post, HP⟩ := hide (fun (e : Ending) (w' : World) => ∃ v', e = .returned v' ∧ OwnI w.heap.size w' v' l ∧ Below w.heap.size w w')
  rw [HP.out]
  have keq := fun (w : World) (a : Option Addr) (n c : Nat) => Lib.run_eql_slice_nil (P := Try.prog) w 22 3 a n c 0 0 Try.underlying22
  have Hn := Lib.hid hn
  have hi := h
  obtain ⟨ao, cap, rfl, hc, hm⟩ := h
  clear hn
  cases ao with
  | none =>
    have hl : l = [] := Classical.byContradiction (fun hne => by obtain ⟨_, _, h, _⟩ := hc hne; cases h)
    subst hl
    have Hp : Hid (post (.returned (.slice none 0 0)) w) := by
      show post _ _
      rw [← HP.out]; exact ⟨_, rfl, World.ownsRow_nil _ _ _ _, Below.refl _ _⟩
    clear hi hc hm
    go_enter Try.func67, Try.ntmps67
    go_wp2_with fail
    first | exact Hp.out | (go_ret; exact Hp.out)
  | some a =>
    have Hs := Lib.hid (src_intsU (P := Try.prog) (tx := 22) Try.underlying22 (hi.mono ((Below.refl _ _).alloc (Nat.le_refl _) (.cells #[] 3))))
    have Ho := Lib.hid (own_emptyU w 3 1)
    clear hi hc hm
    go_enter Try.func67, Try.ntmps67
    go_wp2_with (at_builtin; refine wpList_append_src rfl _ _ 22 22 rfl w.heap.size 3 _ 1 8 Try.underlying22 info_intU rfl _ _ _ rfl Ho.out _ _ _ rfl Hs.out (by have := Hn.out; unfold maxLen; omega) (by have := Hn.out; omega) (by simp) ?_)
    intro v' w2 ho hg
    have Hp : Hid (post (.returned v') w2) := by
      show post _ _
      rw [← HP.out]
      refine ⟨_, rfl, ?_, ((Below.refl w.heap.size w).alloc (Nat.le_refl _) (.cells #[] 3)).trans (grown_below hg (Nat.le_refl _) (by simp))⟩
      first | exact ho | (have h9 := ho; rw [Nat.zero_add, List.nil_append] at h9; exact h9)
    clear ho hg
    go_wp2_with fail
    first | exact Hp.out | (go_ret; exact Hp.out)

theorem is_gives (n x : Int) (B : Nat) (W : World) (hc : W.cell? ⟨B, 0, none⟩ = some (.int .i64 n)) :
    FnGives Try.prog 91 #[.pointer (some ⟨B, 0, none⟩)] #[.int .i64 x] (.bool (x == n)) W := by
  show Calls Try.prog 91 #[.int .i64 x, .pointer (some ⟨B, 0, none⟩)] W _
  obtain ⟨z, hz⟩ := hide (x == n)
  have hz1 := hz.out
  rw [hz1]
  go_enter Try.func91, Try.ntmps91
  go_wp2_with fail
  first | exact ⟨rfl, 0, rfl⟩ | (go_ret; exact ⟨rfl, 0, rfl⟩)
theorem is_pred (n : Int) (B : Nat) (w : World) (hcell : w.cell? ⟨B, 0, none⟩ = some (.int .i64 n)) :
    PredAt Try.prog 91 #[.pointer (some ⟨B, 0, none⟩)] (Value.int .i64) (fun x => x == n) w :=
  fun W x hb => is_gives n x B W ((hb.cell (p := ⟨B, 0, none⟩) (lt_of_cell hcell)).trans hcell)
theorem is_over (n : Int) (B blk off size : Nat) (w : World) (hne : B ≠ blk) (hcell : w.cell? ⟨B, 0, none⟩ = some (.int .i64 n)) :
    PredOver Try.prog 91 #[.pointer (some ⟨B, 0, none⟩)] (Value.int .i64) (fun x => x == n) blk off size w :=
  fun k os dk x _ => is_gives n x B _ (by
    unfold sortWorld
    rw [cell?_grow _ _ _ (by show B < (putRow _ _ _ _ _).heap.size; rw [size_putRow]; exact lt_of_cell hcell), cell?_putRow_other _ _ blk off _ _ (Or.inl hne)]
    exact hcell)
theorem delete_own {S B : Nat} {v : Value} {l : List Int} {n : Int} {w : World} (h : OwnI S w v l) (hl : l.length ≤ 1099511627776) (hS : S ≤ w.heap.size) (hB : B < S) (hcell : w.cell? ⟨B, 0, none⟩ = some (.int .i64 n)) :
    Calls Try.prog 90 #[v, .func (.func 91) #[] #[.pointer (some ⟨B, 0, none⟩)]] w fun e w' => ∃ v', e = .returned v' ∧ OwnI S w' v' (outP n l) ∧ Below S w w' := by
  rcases h.2 with ⟨rfl, h0⟩ | ⟨g, cap, cur, rfl, hb, hh, h1, h2, h3, h4⟩
  · have : l = [] := List.length_eq_zero_iff.1 h0
    subst this
    obtain ⟨post, HP⟩ := hide (fun (e : Ending) (w' : World) => ∃ v', e = .returned v' ∧ OwnI S w' v' (outP n []) ∧ Below S w w')
    rw [HP.out]
    have Hp : Hid (post (.returned (.slice none 0 0)) w) := by
      show post _ _
      rw [← HP.out]; exact ⟨_, rfl, World.ownsRow_nil _ _ _ _, Below.refl _ _⟩
    clear h hcell hB
    go_enter Try.func90, Try.ntmps90
    go_wp2_with fail
    refine (Try.slices_IndexFunc_empty (α := Int) none 0 _ w).mono ?_
    rintro e w' ⟨rfl, rfl⟩
    go_wp2_with fail
    first | exact Hp.out | (go_ret; exact Hp.out)
  · have eg : ∀ args w, (callFunc 91 args).run Try.prog w = .ok (.enter 91 args) w := enters_of Try.func91 (by kernel_rfl) rfl
    have hcon := Try.slices_DeleteFunc (Value.int .i64) (fun _ => rfl) (fun x => x == n) 91 #[.pointer (some ⟨B, 0, none⟩)] eg 0 Try.zeroValue3 g 0 cap l.toArray w
      (is_pred n B w hcell) (is_over n B g 0 _ w (by omega) hcell) (holds_of_blockI hh (by simpa using h4)) (by simp; omega) (by simpa using h1)
    have e1 : l.toArray.size = l.length := by simp
    have e2 : l.toArray.toList.filter (fun x => !(x == n)) = outP n l := by simp [outP]
    rw [e1, e2] at hcon
    refine hcon.mono ?_
    rintro e w' ⟨rfl, q, rfl⟩
    have hlen : (outP n l).length ≤ l.length := List.length_filter_le _ _
    have h5 := ownsRow_sortedI (n := q) (os := #[]) (ss := l) (ts := outP n l ++ List.replicate (l.length - (outP n l).length) 0) (by simp; omega) hb hh h1 h2 h3
    have h6 : w.grownBy _ (some g) := grownBy_sortedI (w := w) (g := g) (n := q) (os := #[]) (outP n l ++ List.replicate (l.length - (outP n l).length) 0).toArray
    rw [grow_empty] at h5 h6
    refine ⟨_, rfl, ?_, grown_below h6 hb hS⟩
    have h7 := own_take h5 hlen
    show World.ownsRow _ _ _ _ _ _ _
    rw [Nat.mul_one, List.map_append, List.take_left' (by simp)] at h7
    exact h7
set_option maxHeartbeats 1000000 in
theorem without_law (v : Value) (l : List Int) (n : Int) (w : World) (hv : Ints w v l) (hl : l.length ≤ 1099511627776) :
    Calls Try.prog 69 #[v, .int .i64 n] w fun e w' => ∃ v', e = .returned v' ∧ OwnI w.heap.size w' v' (outP n l) ∧ Below w.heap.size w w' := by
  obtain ⟨post, HP⟩ := hide (fun (e : Ending) (w' : World) => ∃ v', e = .returned v' ∧ OwnI w.heap.size w' v' (outP n l) ∧ Below w.heap.size w w')
  rw [HP.out]
  obtain ⟨W1, hW1⟩ := hide (w.alloc (.cells #[.int .i64 n] 3))
  obtain ⟨D, hD⟩ := hide w.heap.size
  have hb1 : Below D w W1 := by rw [← hW1.out, ← hD.out]; exact (Below.refl _ _).alloc (Nat.le_refl _) _
  have hx : W1.heap[D]? = some (.cells #[.int .i64 n] 3 (0, 0)) := by rw [← hW1.out, ← hD.out]; exact hp_at _ _ rfl
  have hD1 : D < W1.heap.size := lt_of_block hx
  have HC := Lib.hid (clone_i v l W1 (hv.mono (by rw [hD.out]; exact hb1)) hl)
  have Hb1 := Lib.hid hb1
  have Hx := Lib.hid hx
  rw [hD.out] at HP
  clear hv hb1 hx
  go_enter Try.func69, Try.ntmps69
  go_upto_region 1 with fail
  rw [hW1.out, hD.out]
  go_wp2_with fail
  refine HC.out.mono ?_
  rintro e w2 ⟨v2, rfl, ho2, hb2⟩
  have hc2 : w2.cell? ⟨D, 0, none⟩ = some (.int .i64 n) := (hb2.cell (p := ⟨D, 0, none⟩) hD1).trans (cell_n Hx.out 0 rfl)
  have HD := Lib.hid (delete_own ho2 hl hb2.size hD1 hc2)
  have Hb2 := Lib.hid hb2
  clear ho2 hb2 hc2
  go_wp2_with fail
  refine HD.out.mono ?_
  rintro e w3 ⟨v3, rfl, ho3, hb3⟩
  have Hp : Hid (post (.returned v3) w3) := by
    show post _ _
    rw [← HP.out]
    exact ⟨_, rfl, own_base ho3 (Nat.le_of_lt hD1), Hb1.out.trans ((Hb2.out.trans hb3).mono (Nat.le_of_lt hD1))⟩
  clear ho3 hb3
  go_wp2_with fail
  first | exact Hp.out | (go_ret; exact Hp.out)
end Go.Proofs.Ytgdmcbjlfnjhjaa
