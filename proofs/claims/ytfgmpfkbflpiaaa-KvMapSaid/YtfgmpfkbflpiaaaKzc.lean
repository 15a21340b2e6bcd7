/-
  The law KvMap, walked: it answers true.
-/
import Derived.Test.YtfgmpfkbflpiaaaKzb
namespace Go.Proofs.Ytfgmpfkbflpiaaa
open Go.RowKit Wm Mm Dg Kv
set_option linter.unusedVariables false
set_option linter.unusedSimpArgs false


set_option maxHeartbeats 8000000 in
set_option maxRecDepth 100000 in
theorem law_kvMap (cv : Value) (cs : List CmdP) (G : Nat → Prop) (w : World) (hc : Cmds G w cv cs) (hcn : cs.length ≤ 4611686018427387903) (hl : ∀ c ∈ cs, c.key.length ≤ 9223372036854775807 ∧ c.val.length ≤ 9223372036854775807) :
    Calls Try.prog 4 #[cv] w fun e w' => e = .returned (.bool true) ∧ Below w.heap.size w w' := by
  obtain ⟨post, HP⟩ := hide (fun (e : Ending) (w' : World) => e = .returned (.bool true) ∧ Below w.heap.size w w')
  rw [HP.out]
  obtain ⟨ac, ccap, rfl, _, hcm⟩ := hc.slice
  have HG : Hid (∀ w', Below w.heap.size w w' → Cmds G w' (.slice ac cs.length ccap) cs) := fun w' hb => hc.frame (Plain.good _) (Agree.below hb)
  have KA := Lib.hid (apply_law ⟨1, [107], [118], 0⟩ (.slice none 0 0) [] (fun _ => True) w (Sl.nil _ _ _ _) (by decide))
  have Hl := Lib.hid hl
  obtain ⟨nc, hnc⟩ := hide cs.length
  rw [hnc.out] at HG hcm hcn
  rw [hnc.out]
  clear hc hl
  go_enter Try.func4, Try.ntmps4
  go_wp2_with fail
  refine KA.out.mono ?_
  rintro e W1 hpost
  unfold ApplyPost at hpost
  rw [first_k] at hpost
  obtain ⟨av, kv, rfl, ho1, hk1, hb1⟩ := hpost
  dsimp only at ho1 hk1 ⊢
  obtain ⟨a1, c1, rfl⟩ := owns_slice ho1
  obtain ⟨a2, c2, rfl⟩ := owns_slice hk1
  obtain ⟨W2, hW2⟩ := hide (W1.alloc (.cells (rowRes 1 [] 1 (.slice a2 0 c2)).toArray 26))
  obtain ⟨K, hK⟩ := hide W1.heap.size
  have HW2 : Hid (Below w.heap.size w W2) := by show Below _ _ _; rw [← hW2.out]; exact hb1.alloc hb1.size _
  have HK2 : Hid (W2.heap[K]? = some (.cells (rowRes 1 [] 1 (.slice a2 0 c2)).toArray 26 (0, 0))) := by show _ = _; rw [← hW2.out, ← hK.out]; exact hp_at _ _ rfl
  clear ho1 hk1 hb1
  go_upto_region 2 with fail
  try simp only [List.length_cons, List.length_nil, Nat.zero_add]
  rw [hW2.out]
  rw [hK.out]
  obtain ⟨k0, k1, k2, k3⟩ := four_cells HK2.out
  go_wp2_with fail
  clear k0 k1 k2 k3
  go_loopw [5, 6, 7, 8] (fun s5 s6 s7 s8 wr => ∃ i : Nat, s8 = .int .i64 i ∧ i ≤ nc ∧ i ≤ 1048576 ∧ Hid (MapEnd w.heap.size w wr i s5 s6 s7)) (fun _ _ _ s8 _ => nc - (intOf s8).toNat)
  case atStart => exact ⟨0, rfl, Nat.zero_le _, Nat.zero_le _, [], [], [], ⟨World.ownsRow_nil _ _ _ _, World.ownsRow_nil _ _ _ _, World.ownsRow_nil _ _ _ _, Or.inl rfl⟩, mapInv_nil, HW2⟩
  case round =>
    clear HK2 hK hW2 HW2
    obtain ⟨i, rfl, hi, him, hme⟩ := hrel
    by_cases hlt : i < nc ∧ i < 1048576
    · obtain ⟨h1, h2⟩ := hlt
      have hil : i < cs.length := by rw [hnc.out]; exact h1
      obtain ⟨p, keys, vals, hM, hI, hB⟩ := hme.out
      obtain ⟨pa, pc, rfl⟩ := owns_slice hM.out.hp
      obtain ⟨ka, kc, rfl⟩ := owns_slice hM.out.hk
      obtain ⟨va, vc, rfl⟩ := owns_slice hM.out.hv
      obtain ⟨b, off, rfl, g0, g1, g2, g3⟩ := Sl.cmd (HG.out _ hB.out) hil
      have hl2 := Hl.out _ (List.getElem_mem hil)
      have Hl1 := Lib.hid hl2.1
      have Hl3 := Lib.hid hl2.2
      obtain ⟨n, hn⟩ := hide keys.length
      have hvl : vals.length = n := by rw [← hn.out]; exact hI.out.vlen
      have HM : Hid (MapW w.heap.size wr (.slice pa p.length pc) (.slice ka n kc) (.slice va n vc) p keys vals) := by
        have h := hM.out
        rw [hn.out, hvl] at h
        exact h
      obtain ⟨pn, hpn⟩ := hide p.length
      rw [hpn.out] at HM
      rw [hn.out, hvl, hpn.out]
      have hii : (i : Int) < (nc : Int) := by omega
      have q1 : decide ((i : Int) < (nc : Int)) = true := decide_eq_true hii
      have q2 : decide ((i : Int) < 1048576) = true := decide_eq_true (by omega)
      have Hvl := Lib.hid hvl
      have H1 : Hid (i + 1 ≤ nc ∧ i + 1 ≤ 1048576 ∧ i ≤ 1048575) := ⟨h1, h2, by omega⟩
      clear hl2 hM hme hvl
      go_upto_block 1 with fail
      refine piece_any (piece_m10 w.heap.size i n b off nc ccap pn pc kc vc w wr pa ka va p keys vals _ _ _ _ HM hI H1.out.2.2 hii hpn.out.symm hn.out.symm (Nat.le_refl _) hB.out.size hB g0 g1 g2 g3 Hl1 Hl3 _ ?_)
      unfold Hid
      intros
      rename_i hr
      clear q1 q2
      go_wp2_with fail
      go_roundw
      case rel => exact ⟨i + 1, by go_num, H1.out.1, H1.out.2.1, hr⟩
      case measure => simp [intOf]; omega
    · have HE : Hid (post (.returned (.bool true)) wr) := by
        show post _ _
        rw [← HP.out]
        obtain ⟨_, _, _, _, _, hB⟩ := hme.out
        exact ⟨rfl, hB.out⟩
      by_cases h1 : i < nc
      · have h2 : ¬ i < 1048576 := fun h => hlt ⟨h1, h⟩
        have q1 : decide ((i : Int) < (nc : Int)) = true := decide_eq_true (by omega)
        have q2 : decide ((i : Int) < 1048576) = false := decide_eq_false (by omega)
        clear hlt h2
        go_wp2_with fail
        exact HE.out
      · have q1 : decide ((i : Int) < (nc : Int)) = false := decide_eq_false (by omega)
        clear hlt
        go_wp2_with fail
        exact HE.out
end Go.Proofs.Ytfgmpfkbflpiaaa
