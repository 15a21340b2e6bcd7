/-
  The union of lists of numbers: the library's Grow and Concat walked; then sorted, each once.
-/
import Derived.Test.YtgdmcbjlfnjhjaaSrt
import Derived.Test.YtgdmcbjlfnjhjaaKnp
import Derived.Lib.AppendZerosOnto
namespace Go.Proofs.Ytgdmcbjlfnjhjaa
open Go.RowKit Wm Mm
set_option linter.unusedVariables false
set_option linter.unusedSimpArgs false

theorem wpList_append_run {P : Program} {w : World} {ops : Array Oper} {rest : List Oper} {o : Oper} {a : Act} {Q : Exit → Act → World → Prop} (hgd : o.guard = none) (d s : Operand) (t t' : TypeId)
    (ho : o.op = .call { callee := .builtin .append, args := #[d, s], argTypes := #[t, t'] }) (v u : Value) (hd : a.eval d = v) (hs : a.eval s = u) {v' : Value} {w' : World}
    (hr : (Builtin.append_ #[t, t'] o.type #[v, u]).run P w = .ok v' w') (h : wpList P ops Q rest (a.put o.dst v') w') : wpList P ops Q (o :: rest) a w := by
  refine wpList_plain hgd fun K hK => ?_
  unfold Oper.wp execOp
  simp only [ho, resolve, invoke, builtin, Sem.run_bind, Sem.run_pure, Result.andThen_ok, List.map_toArray, List.map_cons, List.map_nil, hd, hs, hr]
  exact hK _ _ h
theorem info_intU : (Try.prog.info? 3).map (fun i => (i.zero, i.size, i.bytes)) = some (some (.int .i64 0), 1, 8) := by kernel_rfl
theorem src_intsU {P : Program} {w : World} {v : Value} {l : List Int} {tx e' : TypeId} (hk : P.underlying tx = some (.slice e')) (h : Ints w v l) : Src P 1 tx v l.length (l.map (Value.int .i64)) w := by
  obtain ⟨ao, cap, rfl, hc, hm⟩ := h
  by_cases hl : l = []
  · subst hl
    cases ao with
    | none => exact Src.ofNil w hk cap
    | some a => exact Src.ofSlice w hk a 0 cap [] rfl (fun j u hj => by simp at hj) (fun u hu => by simp at hu)
  · obtain ⟨b, off, rfl, hcell⟩ := hc hl
    refine Src.ofSlice w hk _ _ _ _ (by simp) (fun j u hj => ?_) (fun u hu => ?_)
    · rw [List.getElem?_map] at hj
      have hadd : (⟨b, off, none⟩ : Addr).add j = ⟨b, off + j, none⟩ := by unfold Addr.add; split <;> simp_all
      rw [hadd]
      cases hx : l[j]? with
      | none => rw [hx] at hj; cases hj
      | some x => rw [hx] at hj; cases hj; exact hcell j x hx
    · obtain ⟨x, _, rfl⟩ := List.mem_map.1 hu; rfl
/-- so many zeros behind nothing -/
theorem zeros_own (w : World) (k : Nat) (h0 : 0 < k) (hk : k ≤ 1099511627776) :
    ∃ g c w', (∀ ty kq, (Builtin.append_ #[22, 3] ty #[.slice none 0 0, .int kq k]).run Try.prog w = .ok (.slice (some ⟨g, 0, none⟩) k c) w') ∧ OwnI w.heap.size w' (.slice (some ⟨g, 0, none⟩) 0 c) [] ∧ Below w.heap.size w w' := by
  obtain ⟨i, hi, hz, hs, hb⟩ := info_parts info_intU
  have hu : Try.prog.underlying 3 = some (.int .i64) := Try.underlying3
  have hge := grownCap_ge w k 0 3
  have hle := grownCap_le_maxLen w k 0 3 (by unfold maxLen; omega)
  have hr := fun (ty : TypeId) (kq : IntKind) => Lib.run_append_grow_zeros (P := Try.prog) w 22 3 ty 3 i (.int .i64 0) kq .i64 Try.underlying22 hu hi hz none 0 0 [] (by simp [Builtin.firstCells]) k h0 (by omega) (by omega) (by omega) (by rw [hb]; omega) (growslice_fits (by omega) (by rw [hb]; omega))
  simp only [Nat.zero_add] at hr
  refine ⟨_, _, _, hr, ⟨by simp, .inr ⟨w.heap.size, _, _, rfl, Nat.le_refl _, heap_alloc_new w.drew _, Nat.zero_le _, hle, ?_, by simp⟩⟩, ⟨rfl, rfl, rfl, by simp, fun j hj => heap_alloc_old w.drew _ hj⟩⟩
  simp [size_zeroCells, Value.cells]
  omega
set_option maxHeartbeats 1000000 in
theorem grow_law (k : Nat) (w : World) (hk : k ≤ 1099511627776) :
    Calls Try.prog 93 #[.slice none 0 0, .int .i64 k] w fun e w' => ∃ v, e = .returned v ∧ OwnI w.heap.size w' v [] ∧ Below w.heap.size w w' := by
  obtain ⟨post, HP⟩ := hide (fun (e : Ending) (w' : World) => ∃ v, e = .returned v ∧ OwnI w.heap.size w' v [] ∧ Below w.heap.size w w')
  rw [HP.out]
  by_cases h0 : 0 < k
  · obtain ⟨g, c, w1, hr, ho, hb⟩ := zeros_own w k h0 hk
    have Hr := Lib.hid hr
    have Hp : Hid (post (.returned (.slice (some ⟨g, 0, none⟩) 0 c)) w1) := by
      show post _ _
      rw [← HP.out]; exact ⟨_, rfl, ho, hb⟩
    clear hr ho hb
    go_enter Try.func93, Try.ntmps93
    go_wp2_with (at_builtin; refine wpList_append_run rfl _ _ 22 3 rfl _ _ rfl rfl (Hr.out _ _) ?_)
    exact Hp.out
  · obtain rfl : k = 0 := by omega
    have Hp : Hid (post (.returned (.slice none 0 0)) w) := by
      show post _ _
      rw [← HP.out]; exact ⟨_, rfl, World.ownsRow_nil _ _ _ _, Below.refl _ _⟩
    rw [show ((0 : Nat) : Int) = 0 from rfl]
    clear hk h0
    go_enter Try.func93, Try.ntmps93
    go_wp2_with fail
    first | exact Hp.out | (go_ret; exact Hp.out)
theorem flat_take {ll : List (List Int)} {k : Nat} (h : k < ll.length) : (ll.take (k + 1)).flatten = (ll.take k).flatten ++ ll[k] := by
  rw [List.take_add_one, List.getElem?_eq_getElem h, List.flatten_append]; simp
theorem flat_le (ll : List (List Int)) (k : Nat) : (ll.take k).flatten.length ≤ ll.flatten.length := by
  have : ll.flatten = (ll.take k).flatten ++ (ll.drop k).flatten := by rw [← List.flatten_append, List.take_append_drop]
  rw [this, List.length_append]; omega
set_option maxHeartbeats 1000000 in
theorem concat_law (B c : Nat) (vs : List Value) (ll : List (List Int)) (w : World) (hlen : vs.length = ll.length) (hcell : ∀ i (hi : i < vs.length), w.cell? ⟨B, i, none⟩ = some vs[i])
    (hints : ∀ i (h1 : i < vs.length) (h2 : i < ll.length), Ints w vs[i] ll[i]) (hs : ll.flatten.length ≤ 1099511627776) (hv : vs.length ≤ 1099511627776) :
    Calls Try.prog 86 #[.slice (some ⟨B, 0, none⟩) vs.length c] w fun e w' => ∃ v, e = .returned v ∧ OwnI w.heap.size w' v ll.flatten ∧ Below w.heap.size w w' := by
  obtain ⟨post, HP⟩ := hide (fun (e : Ending) (w' : World) => ∃ v, e = .returned v ∧ OwnI w.heap.size w' v ll.flatten ∧ Below w.heap.size w w')
  rw [HP.out]
  have HC := Lib.hid hcell
  have HI := Lib.hid hints
  have HG := Lib.hid (fun k => grow_law k w)
  have HF := Lib.hid (fun k => flat_le ll k)
  have Hs := Lib.hid hs
  obtain ⟨N, hN⟩ := hide vs.length
  rw [hN.out] at hv
  have Hl := Lib.hid (hlen.symm.trans hN.out)
  obtain ⟨vsl, hvsl⟩ := hide vs.length
  clear hcell hints hs hlen
  rw [hN.out]
  go_enter Try.func86, Try.ntmps86
  go_wp2
  go_loopw [3, 11] (fun s i wr => ∃ k a : Nat, s = .int .i64 a ∧ i = .int .i64 k ∧ k ≤ N ∧ wr = w ∧ Hid (a = (ll.take k).flatten.length)) (fun _ i _ => N - (intOf i).toNat)
  case atStart => exact ⟨0, 0, rfl, rfl, Nat.zero_le _, rfl, by show _ = _; simp⟩
  case round =>
    obtain ⟨k, a, rfl, rfl, hk, rfl, Ha⟩ := hrel
    by_cases hlt : k < N
    · have hlt1 : k < vs.length := by have := hN.out; omega
      have hlt2 : k < ll.length := by have := Hl.out; omega
      have hck := HC.out k hlt1
      obtain ⟨ao, cap, hv1, hmax⟩ := len_of_Ints (HI.out k hlt1 hlt2)
      rw [hv1] at hck
      have Hf := Lib.hid (congrArg List.length (flat_take hlt2))
      have ht := HF.out (k + 1)
      rw [Hf.out, List.length_append, ← Ha.out] at ht
      have hs := Hs.out
      obtain ⟨m, hM⟩ := hide ll[k].length
      rw [hM.out] at hck ht
      have ham : a + m ≤ 1099511627776 := by omega
      have hk1 : k + 1 ≤ 1099511627777 := by omega
      have t1 : decide ((a : Int) + (m : Int) < 0) = false := decide_eq_false (by omega)
      clear hv1 hmax ht hs
      go_wp2_with fail
      go_roundw
      case rel => exact ⟨k + 1, a + m, by go_num, by go_num, hlt, (by first | rfl | trivial), by show _ = _; rw [Hf.out, List.length_append, ← Ha.out, hM.out]⟩
      case measure => simp [intOf]; omega
    · have hkn : k = N := by omega
      subst hkn
      have hcap : a ≤ 1099511627776 := by
        have h1 := Ha.out; have h2 := HF.out k; have h3 := Hs.out; omega
      clear hlt hk
      obtain ⟨V, hV⟩ : ∃ V, V = wr := ⟨_, rfl⟩
      subst hV
      go_wp2_with fail
      refine (HG.out a hcap).mono ?_
      rintro e w1 ⟨v0, rfl, ho, hb⟩
      have Ho := Lib.hid ho
      have Hb := Lib.hid hb
      clear ho hb
      go_wp2_with fail
      go_loopw [6, 27] (fun v i w2 => ∃ j : Nat, i = .int .i64 j ∧ j ≤ k ∧ Hid (OwnI V.heap.size w2 v (ll.take j).flatten) ∧ Hid (Below V.heap.size V w2)) (fun _ i _ => k - (intOf i).toNat)
      case atStart => exact ⟨0, rfl, Nat.zero_le _, by show OwnI _ _ _ _; simpa using Ho.out, Hb⟩
      case round =>
        obtain ⟨j, rfl, hj, Ho1, Hb1⟩ := hrel
        by_cases hlt : j < k
        · have hlt1 : j < vs.length := by have := hN.out; omega
          have hlt2 : j < ll.length := by have := Hl.out; omega
          have hck := (Hb1.out.cell (p := ⟨B, j, none⟩) (lt_of_cell (HC.out j hlt1))).trans (HC.out j hlt1)
          have hin := (HI.out j hlt1 hlt2).mono Hb1.out
          obtain ⟨ao, cap, hv1, hmax⟩ := len_of_Ints hin
          rw [hv1] at hck hin
          have Hsrc := Lib.hid (src_intsU (P := Try.prog) (tx := 22) Try.underlying22 hin)
          have hf := flat_take hlt2
          have ht := HF.out (j + 1)
          rw [hf, List.length_append] at ht
          have hs := Hs.out
          have Hf := Lib.hid hf
          have Hb63 : Hid ((ll.take j).flatten.length + ll[j].length ≤ maxLen) := by show _ ≤ _; unfold maxLen; omega
          have Hb48 : Hid (((ll.take j).flatten.length + ll[j].length) * 8 ≤ 140737488355328) := by show _ ≤ _; omega
          have Hsz := Lib.hid Hb1.out.size
          have hk1 : j + 1 ≤ 1099511627777 := by omega
          obtain ⟨L, hL⟩ := hide (ll.take j).flatten
          obtain ⟨R, hR⟩ := hide ll[j]
          rw [hL.out] at Ho1 Hb63 Hb48 Hf
          rw [hR.out] at hck Hsrc Hb63 Hb48 Hf
          obtain ⟨a6, c6, rfl⟩ := owns_slice Ho1.out
          clear hin hv1 hmax hf ht hs
          go_wp2_with (at_builtin; refine wpList_append_src rfl _ _ 22 22 rfl V.heap.size 3 (.int .i64 0) 1 8 Try.underlying22 info_intU rfl _ _ _ rfl Ho1.out _ _ _ rfl Hsrc.out Hb63.out Hb48.out Hsz.out ?_)
          intro v' w2 ho hg
          have Ho2 : Hid (OwnI V.heap.size w2 v' (ll.take (j + 1)).flatten) := by
            show World.ownsRow _ _ _ _ _ _ _
            rw [Hf.out, List.map_append, List.length_append]; exact ho
          have Hb2 : Hid (Below V.heap.size V w2) := by
            show Below _ _ _
            exact Hb1.out.trans (below_own Ho1.out hg (Nat.le_refl _) Hsz.out)
          clear ho hg
          go_wp2_with fail
          go_roundw
          case rel => exact ⟨j + 1, by go_num, hlt, Ho2, Hb2⟩
          case measure => simp [intOf]; omega
        · have hjk : j = k := by omega
          have Hp : Hid (post (.returned u6) wr) := by
            show post _ _
            rw [← HP.out]
            refine ⟨_, rfl, ?_, Hb1.out⟩
            have := Ho1.out
            rw [List.take_of_length_le (by have := Hl.out; omega)] at this
            exact this
          clear hjk
          go_wp2_with fail
          first | exact Hp.out | (go_ret; exact Hp.out)

set_option maxHeartbeats 1000000 in
theorem union_law (B c : Nat) (vs : List Value) (ll : List (List Int)) (w : World) (hlen : vs.length = ll.length) (hcell : ∀ i (hi : i < vs.length), w.cell? ⟨B, i, none⟩ = some vs[i])
    (hints : ∀ i (h1 : i < vs.length) (h2 : i < ll.length), Ints w vs[i] ll[i]) (hs : ll.flatten.length ≤ 1099511627776) (hv : vs.length ≤ 1099511627776) :
    Calls Try.prog 63 #[.slice (some ⟨B, 0, none⟩) vs.length c] w fun e w' => ∃ v, e = .returned v ∧ OwnI w.heap.size w' v (unionP ll.flatten) ∧ Below w.heap.size w w' := by
  obtain ⟨post, HP⟩ := hide (fun (e : Ending) (w' : World) => ∃ v, e = .returned v ∧ OwnI w.heap.size w' v (unionP ll.flatten) ∧ Below w.heap.size w w')
  rw [HP.out]
  have HC := Lib.hid (concat_law B c vs ll w hlen hcell hints hs hv)
  obtain ⟨L, hL⟩ := hide ll.flatten
  rw [hL.out] at HC HP hs
  obtain ⟨N, hN⟩ := hide vs.length
  rw [hN.out] at HC ⊢
  clear hcell hints hlen hv
  go_enter Try.func63, Try.ntmps63
  go_wp2_with fail
  refine HC.out.mono ?_
  rintro e w1 ⟨v1, rfl, ho1, hb1⟩
  obtain ⟨a1, c1, rfl⟩ := owns_slice ho1
  have Hc2 := Lib.hid (sort_own ho1 (by omega) hb1.size)
  have Hb1 := Lib.hid hb1
  clear ho1 hb1
  go_wp2_with fail
  refine Hc2.out.mono ?_
  rintro e w2 ⟨rfl, ho2, hb2, _⟩
  have Hc3 := Lib.hid (compact_own ho2 (by rw [sortP_len]; omega) (Nat.le_trans Hb1.out.size hb2.size))
  have Hb2 := Lib.hid (Hb1.out.trans hb2)
  clear ho2 hb2
  go_wp2_with fail
  refine Hc3.out.mono ?_
  rintro e w3 ⟨v3, rfl, ho3, hb3, _⟩
  have Hp : Hid (post (.returned v3) w3) := by
    show post _ _
    rw [← HP.out]
    exact ⟨_, rfl, ho3, Hb2.out.trans hb3⟩
  clear ho3 hb3
  go_wp2_with fail
  first | exact Hp.out | (go_ret; exact Hp.out)
set_option maxHeartbeats 1000000 in
theorem with_law (v : Value) (l : List Int) (n : Int) (w : World) (hv : Ints w v l) (hst : Strict l) (hl : l.length ≤ 1048576) :
    Calls Try.prog 68 #[v, .int .i64 n] w fun e w' => ∃ v', e = .returned v' ∧ OwnI w.heap.size w' v' (insP n l) ∧ Below w.heap.size w w' := by
  obtain ⟨post, HP⟩ := hide (fun (e : Ending) (w' : World) => ∃ v', e = .returned v' ∧ OwnI w.heap.size w' v' (insP n l) ∧ Below w.heap.size w w')
  rw [HP.out]
  obtain ⟨W1, hW1⟩ := hide (w.alloc (.cells #[.int .i64 n] 3))
  obtain ⟨D, hD⟩ := hide w.heap.size
  have hb1 : Below D w W1 := by rw [← hW1.out, ← hD.out]; exact (Below.refl _ _).alloc (Nat.le_refl _) _
  have hv1 : Ints W1 v l := hv.mono (by rw [hD.out]; exact hb1)
  have hn1 : Ints W1 (.slice (some ⟨D, 0, none⟩) 1 1) [n] := by
    refine ⟨_, _, rfl, fun _ => ⟨D, 0, rfl, fun j x hj => ?_⟩, by show 1 ≤ maxLen; unfold maxLen; omega⟩
    have hj0 : j = 0 := by cases j with | zero => rfl | succ j => simp at hj
    subst hj0
    have : x = n := by simpa using hj.symm
    subst this
    have hx : W1.heap[D]? = some (.cells #[.int .i64 x] 3 (0, 0)) := by rw [← hW1.out, ← hD.out]; exact hp_at _ _ rfl
    exact cell_n hx 0 rfl
  obtain ⟨ao, cap, rfl, hmax⟩ := len_of_Ints hv
  obtain ⟨W2, hW2⟩ := hide (W1.alloc (.cells #[.slice ao l.length cap, .slice (some ⟨D, 0, none⟩) 1 1] 22))
  obtain ⟨E, hE⟩ := hide W1.heap.size
  have hb2 : Below W1.heap.size W1 W2 := by rw [← hW2.out]; exact (Below.refl _ _).alloc (Nat.le_refl _) _
  have hx : W2.heap[E]? = some (.cells #[.slice ao l.length cap, .slice (some ⟨D, 0, none⟩) 1 1] 22 (0, 0)) := by rw [← hW2.out, ← hE.out]; exact hp_at _ _ rfl
  have HU := Lib.hid (union_law E 2 [.slice ao l.length cap, .slice (some ⟨D, 0, none⟩) 1 1] [l, [n]] W2 rfl
    (fun i hi => by
      match i, hi with
      | 0, _ => exact cell_n hx 0 rfl
      | 1, _ => exact cell_n hx 1 rfl)
    (fun i h1 h2 => by
      match i, h1, h2 with
      | 0, _, _ => exact hv1.mono hb2
      | 1, _, _ => exact hn1.mono hb2)
    (by simp; omega) (by simp))
  rw [show ([l, [n]] : List (List Int)).flatten = l ++ [n] from by simp, unionP_ins n hst] at HU
  have Hb12 : Hid (Below D w W2) := by
    show Below _ _ _
    exact hb1.trans (hb2.mono (by rw [← hD.out]; exact hb1.size))
  have Hds : Hid (D ≤ W2.heap.size) := by show _ ≤ _; rw [← hD.out]; exact Hb12.out.size
  rw [hD.out] at HP
  clear hv hv1 hn1 hb1 hb2 hx hst
  go_enter Try.func68, Try.ntmps68
  go_wp2_with fail
  have hE2 : Hid (D + 1 = E) := by show _ = _; rw [← hE.out, ← hW1.out, ← hD.out]; simp
  rw [hD.out, hW1.out, hW2.out, hE2.out]
  refine HU.out.mono ?_
  rintro e w3 ⟨v3, rfl, ho3, hb3⟩
  have Hp : Hid (post (.returned v3) w3) := by
    show post _ _
    rw [← HP.out]
    exact ⟨_, rfl, own_base ho3 Hds.out, by rw [hD.out] at *; exact Hb12.out.trans (hb3.mono Hds.out)⟩
  clear ho3 hb3
  go_wp2_with fail
  first | exact Hp.out | (go_ret; exact Hp.out)
end Go.Proofs.Ytgdmcbjlfnjhjaa
