/-
  Bounds of keys: the edges of a delegation and of a range.
-/
import Derived.Test.YtlknkhmhdmpdkaaDh
import Derived.Test.YtlknkhmhdmpdkaaLf
import Derived.Deep.RegionLaw
namespace Go.Proofs.Ytlknkhmhdmpdkaa
open Go.RowKit Wm Mm Dg
set_option linter.unusedVariables false
set_option linter.unusedSimpArgs false

theorem sl_part {α : Type} {size : Nat} {row : α → List Value} {F : Nat → Prop} {w : World} {ao : Option Addr} {cap p n : Nat} {L : List α} (h : Sl size (Plain row) F w (.slice ao L.length cap) L) (hp : p + n ≤ L.length) :
    ∃ av, Sl size (Plain row) F w (.slice av n (cap - p)) ((L.drop p).take n) ∧ ((ao = none ∧ av = none ∧ L = [] ∧ cap = 0 ∧ p = 0 ∧ n = 0) ∨ ∃ a, ao = some a ∧ ((cap = p ∧ n = 0 ∧ av = some a) ∨ (cap ≠ p ∧ av = some (a.add (p * size))))) := by
  have hdl : (L.drop p).length = L.length - p := List.length_drop
  have hnl : ((L.drop p).take n).length = n := by rw [List.length_take, hdl]; omega
  obtain ⟨_, _, he, hcap, hmax⟩ := h.slice
  injection he with e1 e2 e3
  subst e1
  subst e3
  have hemp : ∀ (av : Option Addr) (c : Nat), (av = none → c = 0) → n = 0 → Sl size (Plain row) F w (.slice av n c) ((L.drop p).take n) := by
    intro av c hz hn
    subst hn
    exact ⟨av, c, by rw [hnl], ⟨by rw [hnl]; omega, fun h => hz h⟩, by rw [hnl]; omega, fun h => absurd rfl h⟩
  cases ao with
  | none =>
    obtain ⟨rfl, rfl⟩ := h.isNil
    have h0 : p = 0 := by simp at hp; omega
    have h1 : n = 0 := by simp at hp; omega
    exact ⟨none, hemp _ _ (fun _ => by omega) h1, Or.inl ⟨rfl, rfl, rfl, rfl, h0, h1⟩⟩
  | some a =>
    by_cases hcm : cap = p
    · have h1 : n = 0 := by omega
      exact ⟨some a, hemp _ _ (fun h => by cases h) h1, Or.inr ⟨a, rfl, Or.inl ⟨hcm, h1, rfl⟩⟩⟩
    · by_cases h0 : 0 < L.length
      · obtain ⟨b, off, e, _, _⟩ := h.all h0
        injection e with e
        subst e
        have hadd : (⟨b, off, none⟩ : Addr).add (p * size) = ⟨b, off + p * size, none⟩ := by unfold Addr.add; split <;> simp_all
        have hq := Sl.drop h (k := p) (by omega)
        rw [← hdl] at hq
        have hq2 := hq.take (k := n) (by omega)
        exact ⟨_, hq2, Or.inr ⟨_, rfl, Or.inr ⟨hcm, by rw [hadd]⟩⟩⟩
      · exact ⟨some (a.add (p * size)), hemp _ _ (fun h => by cases h) (by omega), Or.inr ⟨a, rfl, Or.inr ⟨hcm, rfl⟩⟩⟩

abbrev rowS (x : List UInt8) : List Value := [str x]
abbrev Txts (F : Nat → Prop) (w : World) (v : Value) (l : List (List UInt8)) : Prop := Sl 1 (Plain rowS) F w v l
theorem info_txt : (Try.prog.info? 9).map (fun i => (i.zero, i.size, i.bytes)) = some (some (.string ByteArray.empty), 1, 16) := by kernel_rfl
theorem rowS_len (b : List UInt8) : (rowS b).length = 1 := rfl
theorem rowS_one (b : List UInt8) : ∀ u ∈ rowS b, u.oneCell' = true := by intro u hu; simp at hu; subst hu; rfl
abbrev OwnS (S : Nat) (w : World) (v : Value) (l : List (List UInt8)) : Prop := w.ownsRow S 9 1 v l.length (l.flatMap rowS)
theorem OwnS.txts {S : Nat} {w : World} {v : Value} {l : List (List UInt8)} (h : OwnS S w v l) : Txts (fun k => S ≤ k) w v l := Sl.own rowS rowS_len h (fun _ _ => rfl) (fun _ _ h _ => h)
theorem Sl.one {F : Nat → Prop} {w : World} {a : Option Addr} {n c : Nat} {l : List (List UInt8)} (h : Txts F w (.slice a n c) l) {k : Nat} (hk : k < l.length) :
    ∃ b off, a = some ⟨b, off, none⟩ ∧ w.cell? ⟨b, off + k, none⟩ = some (str l[k]) := by
  obtain ⟨b, off, us, e, _, _, hus, hcs⟩ := h.at hk
  have hus' : us = rowS l[k] := hus
  subst hus'
  have := hcs 0 _ rfl
  rw [Nat.mul_one, Nat.add_zero] at this
  exact ⟨b, off, e, this⟩
theorem own_lit (w : World) (e : TypeId) (size n : Nat) (cs : Array Value) (h : cs.size = n * size) (hn : n ≤ maxLen) : (w.alloc (.cells cs e)).ownsRow w.heap.size e size (.slice (some ⟨w.heap.size, 0, none⟩) n n) n cs.toList :=
  ⟨by simpa using h, Or.inr ⟨w.heap.size, n, cs, rfl, Nat.le_refl _, hp_at _ _ rfl, Nat.le_refl _, hn, h, by rw [← h]; exact List.take_length⟩⟩
theorem flatS_take : ∀ (l : List (List UInt8)) (k : Nat), (l.flatMap rowS).take (k * 1) = (l.take k).flatMap rowS
  | _, 0 => by simp
  | [], k + 1 => by simp
  | a :: r, k + 1 => by
    have := flatS_take r k
    rw [Nat.mul_one] at this ⊢
    rw [List.flatMap_cons, List.take_succ_cons, List.flatMap_cons, ← this]
    rfl

set_option maxHeartbeats 4000000 in
set_option maxRecDepth 100000 in
theorem edges_law (v : Value) (l : List BoundP) (fr up : List UInt8) (F : Nat → Prop) (w : World) (hv : Bnds F w v l) (hn : l.length ≤ 5864062014634) :
    Calls Try.prog 108 #[v, str fr, str up] w fun e w' => ∃ v', e = .returned v' ∧ OwnS w.heap.size w' v' (edgesP l fr up) ∧ Below w.heap.size w w' := by
  obtain ⟨post, HP⟩ := hide (fun (e : Ending) (w' : World) => ∃ v', e = .returned v' ∧ OwnS w.heap.size w' v' (edgesP l fr up) ∧ Below w.heap.size w w')
  rw [HP.out]
  obtain ⟨ao, cap, rfl, hcap, hmax⟩ := hv.slice
  have HF : Hid (∀ w', Below w.heap.size w w' → Bnds F w' (.slice ao l.length cap) l) := fun w' hb => hv.frame (Plain.good _) (Agree.below hb)
  have Hn := Lib.hid hn
  have hm : l.length ≤ 9223372036854775807 := hmax
  obtain ⟨S, hS⟩ := hide w.heap.size
  obtain ⟨T, hT⟩ := hide (fun k => fr :: up :: (l.take k).map BoundP.frm)
  have HT1 : Hid (∀ k (hk : k < l.length), T (k + 1) = T k ++ [l[k].frm]) := by
    rw [← hT.out]
    intro k hk
    have e : l.take (k + 1) = l.take k ++ [l[k]] := by rw [List.take_add_one, List.getElem?_eq_getElem hk]; rfl
    show fr :: up :: (l.take (k + 1)).map _ = _
    rw [e, List.map_append]
    rfl
  have HTl : Hid (∀ k, k ≤ l.length → (T k).length = k + 2) := by
    rw [← hT.out]
    intro k hk
    simp only [List.length_cons, List.length_map, List.length_take]
    omega
  obtain ⟨V, hV⟩ := hide (w.alloc (.cells #[str fr, str up] 9))
  have HoV : Hid (OwnS S V (.slice (some ⟨S, 0, none⟩) (T 0).length 2) (T 0)) := by
    show World.ownsRow _ _ _ _ _ _ _
    rw [← hV.out, ← hT.out, ← hS.out]
    exact own_lit w _ 1 2 #[str fr, str up] rfl (by decide)
  have HbV : Hid (Below S w V) := by show Below _ _ _; rw [← hV.out, ← hS.out]; exact (Below.refl _ _).alloc (Nat.le_refl _) _
  clear hv hn hmax
  go_enter Try.func108, Try.ntmps108
  go_upto_region 2 with fail
  rw [hV.out, hS.out]
  go_wp2_with fail
  go_loopw [7, 8] (fun s7 i wr => ∃ k : Nat, ∃ a c, i = .int .i64 k ∧ k ≤ l.length ∧ s7 = .slice a (T k).length c ∧ Hid (OwnS S wr (.slice a (T k).length c) (T k)) ∧ Hid (Below S w wr)) (fun _ i _ => l.length - (intOf i).toNat)
  case atStart => exact ⟨0, some ⟨S, 0, none⟩, 2, rfl, Nat.zero_le _, by rw [HTl.out 0 (Nat.zero_le _)], HoV, HbV⟩
  case round =>
    clear HoV HbV hV
    obtain ⟨k, a, c, rfl, hkl, rfl, ho, hb⟩ := hrel
    by_cases hlt : k < l.length
    · obtain ⟨b, off, rfl, c0, c1⟩ := Sl.two (HF.out _ (hS.out ▸ hb.out)) hlt
      have ht := HT1.out k hlt
      obtain ⟨y, hy⟩ := hide l[k]
      rw [hy.out] at c0 c1 ht
      have HT := Lib.hid ht
      have HLB : Hid ((T k).length ≤ 5864062014636) := by show _ ≤ _; rw [HTl.out k hkl]; have := Hn.out; omega
      have HSW : Hid (S ≤ wr.heap.size) := by show S ≤ _; rw [← hS.out]; exact hb.out.size
      clear ht
      go_wp2_with (at_builtin; refine wpList_push rfl _ _ 43 rfl S 9 _ 1 16 Try.underlying43 info_txt rfl (by decide) _ _ _ rfl ho.out _ rfl rfl (by intro u hu; simp at hu; subst hu; rfl) (by have := HLB.out; unfold maxLen; omega) (by have := HLB.out; omega) HSW.out ?_)
      intro v2 w2 ho2 hg2
      obtain ⟨a2, c2, rfl⟩ := owns_slice ho2
      have Ho2 : Hid (OwnS S w2 (.slice a2 (T (k + 1)).length c2) (T (k + 1))) := by
        show w2.ownsRow _ _ _ _ _ _
        rw [HT.out, List.length_append, List.flatMap_append]
        exact ho2
      have Hb2 : Hid (Below S w w2) := hb.out.trans (below_own ho.out hg2 (Nat.le_refl _) HSW.out)
      clear ho2 hg2
      go_wp2_with fail
      go_roundw
      case rel => exact ⟨k + 1, a2, c2, by go_num, by omega, by rw [HT.out, List.length_append]; rfl, Ho2, Hb2⟩
      case measure => simp [intOf]; omega
    · obtain rfl : k = l.length := by omega
      obtain ⟨X, hX⟩ := hide (allP l fr up)
      have hTX : T l.length = X := by rw [← hT.out, ← hX.out]; simp only [List.take_length]; rfl
      rw [hTX] at ho ⊢
      have HXl : Hid (X.length ≤ 5864062014636) := by show _ ≤ _; rw [← hTX, HTl.out _ (Nat.le_refl _)]; have := Hn.out; omega
      obtain ⟨O, hO⟩ := hide (fun i => (X.take i).foldl insertP [])
      have HO1 : Hid (∀ i (hi : i < X.length), O (i + 1) = insertP (O i) X[i]) := by
        rw [← hO.out]
        intro i hi
        have e : X.take (i + 1) = X.take i ++ [X[i]] := by rw [List.take_add_one, List.getElem?_eq_getElem hi]; rfl
        show (X.take (i + 1)).foldl _ _ = _
        rw [e, List.foldl_append]
        rfl
      have HOE : Hid (O X.length = edgesP l fr up) := by
        show _ = _
        rw [← hO.out, ← hX.out]
        simp only [List.take_length]
        rfl
      have HOl : Hid (∀ i, i ≤ X.length → (O i).length ≤ i) := by
        intro i
        induction i with
        | zero => intro _; rw [← hO.out]; exact Nat.le_refl _
        | succ i ih =>
          intro hi
          rw [HO1.out i hi]
          have := ih (by omega)
          unfold insertP
          split
          · omega
          · rw [List.length_append, List.length_take, List.length_cons, List.length_drop]
            have := below_le X[i] (O i)
            omega
      clear hTX
      obtain ⟨S1, hS1⟩ := hide wr.heap.size
      have HA : Hid (∀ w', Below S1 wr w' → Txts (fun g => S ≤ g) w' (.slice a X.length c) X) := fun w' hb' => (OwnS.txts ho.out).frame (Plain.good _) (Agree.below (by rw [hS1.out]; exact hb'))
      have HbS : Hid (∀ w', Below S1 wr w' → Below S w w') := fun w' h => hb.out.trans (h.mono (by rw [← hS1.out, ← hS.out]; exact hb.out.size))
      have HS1w : Hid (∀ w', Below S1 wr w' → S1 ≤ w'.heap.size) := fun w' h => by have := h.size; rw [hS1.out] at this; exact this
      have HSS : Hid (S ≤ S1) := by show _ ≤ _; rw [← hS1.out, ← hS.out]; exact hb.out.size
      go_wp2_with fail
      go_loopw [9, 10] (fun s9 i w2 => ∃ k : Nat, ∃ a c, i = .int .i64 k ∧ k ≤ X.length ∧ s9 = .slice a (O k).length c ∧ Hid (OwnS S1 w2 (.slice a (O k).length c) (O k)) ∧ Hid (Below S1 wr w2)) (fun _ i _ => X.length - (intOf i).toNat)
      case atStart => exact ⟨0, none, 0, rfl, Nat.zero_le _, by rw [← hO.out]; rfl, by rw [← hO.out]; exact World.ownsRow_nil _ _ _ _, Below.refl _ _⟩
      case round =>
        clear ho hb
        obtain ⟨k, a9, c9, rfl, hkl2, rfl, ho, hb⟩ := hrel
        by_cases hlt2 : k < X.length
        · have hkb : k ≤ 5864062014636 := by have := HXl.out; omega
          have hO1 := HO1.out k hlt2
          have hOl := HOl.out k hkl2
          obtain ⟨x, hx⟩ := hide X[k]
          rw [hx.out] at hO1
          obtain ⟨bx, offx, rfl, cx⟩ := Sl.one (HA.out _ hb.out) hlt2
          have Hcx : Hid (∀ w', Below wr.heap.size wr w' → w'.cell? ⟨bx, offx + k, none⟩ = some (str x)) := by
            intro w' hw'
            obtain ⟨b', off', e, c'⟩ := Sl.one (HA.out _ (hb.out.trans (hw'.mono (HS1w.out _ hb.out)))) hlt2
            injection e with e
            injection e with e1 e2
            rw [e1, e2, c', hx.out]
          clear cx
          obtain ⟨L, hL⟩ := hide (O k)
          rw [hL.out] at ho hO1 hOl ⊢
          have HO1' := Lib.hid hO1
          obtain ⟨q, hq⟩ := hide (below x L)
          have hqL : q ≤ L.length := by rw [← hq.out]; exact below_le x L
          have HT : Hid (∀ w', Below wr.heap.size wr w' → Txts (fun g => S1 ≤ g) w' (.slice a9 L.length c9) L) := fun w' hw' => (OwnS.txts ho.out).frame (Plain.good _) (Agree.below hw')
          have hLm : L.length ≤ 5864062014636 := by have := HXl.out; omega
          clear hO1
          go_upto_block 4 with fail
          go_cut [11] (fun s wx => s = .int .i64 q ∧ Hid (Below wr.heap.size wr wx))
          case first =>
            go_wp2_with fail
            go_loopw [11] (fun s w3 => ∃ j : Nat, s = .int .i64 j ∧ j ≤ L.length ∧ Hid (∀ i (h : i < L.length), i < j → lt L[i] x = true) ∧ Hid (Below wr.heap.size wr w3)) (fun s _ => L.length - (intOf s).toNat)
            case atStart => exact ⟨0, rfl, Nat.zero_le _, fun i _ h => by omega, Below.refl _ _⟩
            case round =>
              obtain ⟨j, rfl, hjL, hlo, hb3⟩ := hrel
              have cx := Hcx.out _ hb3.out
              by_cases hlt3 : j < L.length
              · obtain ⟨bl, offl, rfl, cl⟩ := Sl.one (HT.out _ hb3.out) hlt3
                have HQ : Hid (lt L[j] x = false → j = q) := fun h => by
                  rw [← hq.out]
                  exact (below_of x L j hjL hlo.out (fun _ => h)).symm
                have HS : Hid (lt L[j] x = true → ∀ i (h : i < L.length), i < j + 1 → lt L[i] x = true) := fun h i hi hij => by
                  rcases Nat.lt_or_ge i j with h1 | h1
                  · exact hlo.out i hi h1
                  · have : i = j := by omega
                    subst this
                    exact h
                obtain ⟨y, hy⟩ := hide L[j]
                rw [hy.out] at cl HQ HS
                cases hyx : lt y x
                · have HJ := Lib.hid (HQ.out hyx)
                  have hyx' : Op.bytesLess y x = false := hyx
                  clear hyx
                  go_wp2_with (go_quiet (fail))
                  go_meet
                  exact ⟨by rw [HJ.out], below_drew' hb3.out _⟩
                · have HJ := Lib.hid (HS.out hyx)
                  have hyx' : Op.bytesLess y x = true := hyx
                  clear hyx
                  go_wp2_with (go_quiet (fail))
                  go_roundw
                  case rel => exact ⟨j + 1, by go_num, by omega, HJ, below_drew' hb3.out _⟩
                  case measure => simp [intOf]; omega
              · have HJ : Hid (j = q) := by
                  show _ = _
                  rw [← hq.out]
                  exact (below_of x L j hjL hlo.out (fun h => by omega)).symm
                go_wp2_with (go_quiet (fail))
                go_meet
                exact ⟨by rw [HJ.out], below_drew' hb3.out _⟩
          case rest =>
            obtain ⟨rfl, hbc⟩ := hcut
            have cx := Hcx.out _ hbc.out
            have hins : insertP L x = if L[q]? = some x then L else L.take q ++ x :: L.drop q := by unfold insertP; rw [hq.out]
            have HT2 : Hid (∀ w', Below wc.heap.size wc w' → Txts (fun g => S1 ≤ g) w' (.slice a9 L.length c9) L) := fun w' hw' => HT.out _ (hbc.out.trans (hw'.mono hbc.out.size))
            have Hins := Lib.hid hins
            clear hins
            obtain ⟨e, he⟩ := hide (decide (L[q]? = some x))
            go_upto_region 13 with fail
            go_cut [67] (fun s wx => s = .bool e ∧ Hid (Below wc.heap.size wc wx))
            case first =>
              by_cases hql : q < L.length
              · obtain ⟨bl, offl, rfl, cl⟩ := Sl.one (HT2.out _ (Below.refl _ _)) hql
                have he2 : decide (L[q]? = some x) = (L[q] == x) := by rw [List.getElem?_eq_getElem hql]; by_cases h : L[q] = x <;> simp [h]
                rw [he.out] at he2
                obtain ⟨y, hy⟩ := hide L[q]
                rw [hy.out] at cl he2
                have he3 := he2.symm
                clear he2
                have hyx : (y == x) = e := he3
                clear he3
                cases e
                all_goals
                  go_wp2_with (go_quiet (fail))
                  go_meet
                  exact ⟨rfl, below_drew' (Below.refl _ _) _⟩
              · have he2 : e = false := by rw [← he.out]; exact decide_eq_false (by rw [List.getElem?_eq_none (by omega)]; exact fun h => by cases h)
                subst he2
                go_wp2_with (go_quiet (fail))
                go_meet
                exact ⟨rfl, below_drew' (Below.refl _ _) _⟩
            case rest =>
              obtain ⟨rfl, hb4⟩ := hcut
              have Hb4 : Hid (Below wr.heap.size wr wc) := hbc.out.trans (hb4.out.mono hbc.out.size)
              have Ho4 := Lib.hid (own_below ho.out Hb4.out)
              have HbX : Hid (Below S1 _ wc) := hb.out.trans (Hb4.out.mono (HS1w.out _ hb.out))
              cases e
              · have hne : ¬ L[q]? = some x := of_decide_eq_false he.out
                have HOk : Hid (O (k + 1) = L.take q ++ x :: L.drop q) := by show _ = _; rw [HO1'.out, Hins.out, if_neg hne]
                clear hne
                have hR4 : Hid (wr.heap.size ≤ wc.heap.size) := Hb4.out.size
                have cx2 := Hcx.out _ Hb4.out
                have HL4 : Hid (Txts (fun g => S1 ≤ g) wc (.slice a9 L.length c9) L) := HT.out _ Hb4.out
                obtain ⟨_, _, ee, hcc, _⟩ := HL4.out.slice
                have hLc : L.length ≤ c9 := by injection ee with _ _ e3; rw [e3]; exact hcc
                clear ee hcc
                obtain ⟨m, hmq⟩ : ∃ m, m = L.length - q := ⟨_, rfl⟩
                have Hmq := Lib.hid hmq
                obtain ⟨av, hpa, hav⟩ := sl_part HL4.out (p := q) (n := m) (by omega)
                have hdm : (L.drop q).take m = L.drop q := List.take_of_length_le (by rw [List.length_drop]; omega)
                have hdl : (L.drop q).length = m := by rw [List.length_drop]; omega
                rw [hdm, ← hdl] at hpa
                have hs := src_sl (P := Try.prog) (tx := 43) rowS Try.underlying43 (by decide) rowS_len rowS_one hpa
                rw [hdl] at hs
                have Hs := Lib.hid hs
                have Hdl := Lib.hid hdl
                obtain ⟨R, hR⟩ := hide wc.heap.size
                have hmL : m ≤ 5864062014636 := by omega
                clear hpa hs hdm hdl hmq
                go_upto_region 14 with fail
                go_cut [12] (fun s wx => ∃ a12 c12, s = .slice a12 m c12 ∧ Hid (wx.ownsRow R 9 1 (.slice a12 m c12) m ((L.drop q).flatMap rowS)) ∧ Hid (Below wc.heap.size wc wx))
                case first =>
                  have HRz : Hid (wc.ownsRow R 9 1 (.slice none 0 0) 0 []) := World.ownsRow_nil _ _ _ _
                  have HRs : Hid (R ≤ wc.heap.size) := by show _ ≤ _; rw [hR.out]; exact Nat.le_refl _
                  have p1 : (q : Int) ≤ (L.length : Int) := by omega
                  have p2 : (q : Int) ≤ (c9 : Int) := by omega
                  have p3 : q ≤ c9 := by omega
                  rcases hav with ⟨e1, e2, e3, e4, e5, e6⟩ | ⟨a, e1, ⟨e4, e6, e2⟩ | ⟨e4, e2⟩⟩
                  · subst e1 e2
                    have hm1 : L.length - q = m := Hmq.out.symm
                    have hL1 : L.length ≤ 5864062014636 := hLm
                    clear e3 e4 e5 e6
                    go_wp2_with (at_builtin; refine wpList_append_src rfl _ _ 43 43 rfl R 9 _ 1 16 Try.underlying43 info_txt rfl _ _ _ rfl HRz.out _ _ _ rfl Hs.out (by unfold maxLen; omega) (by omega) HRs.out ?_)
                    intro v6 w6 ho6 hg6
                    obtain ⟨a6, c6, rfl⟩ := owns_slice ho6
                    have Hb6 : Hid (Below wc.heap.size wc w6) := grown_fresh0 hg6 (Nat.le_refl _)
                    try simp only [Nat.zero_add, List.nil_append] at ho6
                    have Ho6 := Lib.hid ho6
                    clear ho6 hg6
                    go_wp2_with fail
                    go_meet
                    exact ⟨_, _, by first | rfl | rw [Nat.zero_add], Ho6, Hb6⟩
                  · subst e1 e2
                    obtain rfl : q = c9 := e4.symm
                    rw [Nat.sub_self] at Hs
                    have hm1 : L.length - q = m := Hmq.out.symm
                    clear e4 e6
                    go_wp2_with (at_builtin; refine wpList_append_src rfl _ _ 43 43 rfl R 9 _ 1 16 Try.underlying43 info_txt rfl _ _ _ rfl HRz.out _ _ _ rfl Hs.out (by unfold maxLen; omega) (by omega) HRs.out ?_)
                    intro v6 w6 ho6 hg6
                    obtain ⟨a6, c6, rfl⟩ := owns_slice ho6
                    have Hb6 : Hid (Below wc.heap.size wc w6) := grown_fresh0 hg6 (Nat.le_refl _)
                    try simp only [Nat.zero_add, List.nil_append] at ho6
                    have Ho6 := Lib.hid ho6
                    clear ho6 hg6
                    go_wp2_with fail
                    go_meet
                    exact ⟨_, _, by first | rfl | rw [Nat.zero_add], Ho6, Hb6⟩
                  · subst e1 e2
                    rw [Nat.mul_one] at Hs
                    have hm1 : L.length - q = m := Hmq.out.symm
                    go_wp2_with (at_builtin; refine wpList_append_src rfl _ _ 43 43 rfl R 9 _ 1 16 Try.underlying43 info_txt rfl _ _ _ rfl HRz.out _ _ _ rfl Hs.out (by unfold maxLen; omega) (by omega) HRs.out ?_)
                    intro v6 w6 ho6 hg6
                    obtain ⟨a6, c6, rfl⟩ := owns_slice ho6
                    have Hb6 : Hid (Below wc.heap.size wc w6) := grown_fresh0 hg6 (Nat.le_refl _)
                    try simp only [Nat.zero_add, List.nil_append] at ho6
                    have Ho6 := Lib.hid ho6
                    clear ho6 hg6
                    go_wp2_with fail
                    go_meet
                    exact ⟨_, _, by first | rfl | rw [Nat.zero_add], Ho6, Hb6⟩
                case rest =>
                  obtain ⟨a12, c12, rfl, HoR, hb5⟩ := hcut
                  have Hb5 : Hid (Below wr.heap.size wr wc) := Hb4.out.trans (hb5.out.mono Hb4.out.size)
                  have cx3 : wc.drew.cell? ⟨bx, offx + k, none⟩ = some (str x) := Hcx.out _ Hb5.out.drew
                  have hoT := own_take ho.out hqL
                  rw [flatS_take] at hoT
                  have Hne : Hid ((Value.slice a12 m c12).ownBlock = none ∨ (Value.slice a12 m c12).ownBlock ≠ (Value.slice a9 q c9).ownBlock) := by
                    cases e : (Value.slice a12 m c12).ownBlock with
                    | none => exact Or.inl rfl
                    | some g =>
                      refine Or.inr (fun e2 => ?_)
                      have h1 := (HoR.out.lt g e).1
                      have h2 := (hoT.lt g e2.symm).2
                      have h3 := hR4.out
                      have h4 := hR.out
                      omega
                  have HoQ := Lib.hid ((World.ownsRow.drew (own_below hoT Hb5.out)).alloc (.cells #[str x] 9))
                  have HoR1 := Lib.hid ((World.ownsRow.drew HoR.out).alloc (.cells #[str x] 9))
                  have Hsx := Lib.hid (src_new (P := Try.prog) (w := wc.drew) (e := 9) (e' := 9) (tx := 43) (size := 1) (n := 1) Try.underlying43 #[str x] 1 rfl (by intro u hu; simp at hu; subst hu; rfl))
                  have HUd : Hid (Below S1 _ wc.drew) := (hb.out.trans (Hb5.out.mono (HS1w.out _ hb.out))).drew
                  have HU : Hid (Below S1 _ (wc.drew.alloc (.cells #[str x] 9))) := HUd.out.alloc (HS1w.out _ HUd.out) _
                  have HUs : Hid (S1 ≤ (wc.drew.alloc (.cells #[str x] 9)).heap.size) := HS1w.out _ HU.out
                  clear hoT
                  have Hone : Hid (∀ u ∈ (L.drop q).flatMap rowS, u.oneCell' = true) := fun u hu => by obtain ⟨y, _, hy⟩ := List.mem_flatMap.1 hu; exact rowS_one y u hy
                  have HLen : Hid ((O (k + 1)).length = q + 1 + m) := by show _ = _; rw [HOk.out, List.length_append, List.length_cons, List.length_take, Hdl.out]; have := Hmq.out; omega
                  have HRow : Hid ((O (k + 1)).flatMap rowS = (L.take q).flatMap rowS ++ [str x] ++ (L.drop q).flatMap rowS) := by show _ = _; rw [HOk.out, List.flatMap_append, List.flatMap_cons, List.append_assoc]
                  have p1 : (q : Int) ≤ (c9 : Int) := by omega
                  have p2 : q ≤ c9 := by omega
                  have hqm : q + m ≤ 5864062014636 := by have := Hmq.out; omega
                  clear cx cx2
                  go_upto_region 15 with fail
                  go_region_law (first
                    | (refine step_append_src (by rfl) _ _ 43 43 (by rfl) S1 9 _ 1 16 Try.underlying43 info_txt rfl _ _ _ (by rfl) HoQ.out _ _ _ (by rfl) Hsx.out (by unfold maxLen; omega) (by omega) HUs.out ?_; intro v1 w1 ho1 hg1; obtain ⟨a1, c1, rfl⟩ := owns_slice ho1; have HoR2 := Lib.hid (HoR1.out.kept hg1 Hne.out); have Ho1 := Lib.hid ho1; have Hb1 : Hid (Below S1 _ w1) := HU.out.trans (below_own HoQ.out hg1 (Nat.le_refl _) HUs.out); have Hsr := Lib.hid (src_own (P := Try.prog) (tx := 43) Try.underlying43 HoR2.out Hone.out); have HUs1 : Hid (S1 ≤ w1.heap.size) := HS1w.out _ Hb1.out; clear ho1 hg1)
                    | (refine step_append_src (by rfl) _ _ 43 43 (by rfl) S1 9 _ 1 16 Try.underlying43 info_txt rfl _ _ _ (by rfl) Ho1.out _ _ _ (by rfl) Hsr.out (by unfold maxLen; omega) (by omega) HUs1.out ?_; intro v2 w2 ho2 hg2; obtain ⟨a2, c2, rfl⟩ := owns_slice ho2; have Ho2 := Lib.hid ho2; have Hb2 : Hid (Below S1 _ w2) := Hb1.out.trans (below_own Ho1.out hg2 (Nat.le_refl _) HUs1.out); clear ho2 hg2))
                  have Ho3 : Hid (OwnS S1 w2 (.slice a2 (O (k + 1)).length c2) (O (k + 1))) := by
                    show w2.ownsRow _ _ _ _ _ _
                    rw [HLen.out, HRow.out]
                    exact Ho2.out
                  go_wp2_with fail
                  go_roundw
                  case rel => exact ⟨k + 1, a2, c2, by go_num, by omega, by rw [HLen.out], Ho3, Hb2⟩
                  case measure => simp [intOf]; omega
              · have hne : L[q]? = some x := of_decide_eq_true he.out
                have HOk : Hid (O (k + 1) = L) := by show _ = _; rw [HO1'.out, Hins.out, if_pos hne]
                clear hne
                go_wp2_with fail
                go_roundw
                case rel => exact ⟨k + 1, a9, c9, by go_num, by omega, by rw [HOk.out], by rw [HOk.out]; exact Ho4, HbX⟩
                case measure => simp [intOf]; omega
        · obtain rfl : k = X.length := by omega
          rw [HOE.out] at ho ⊢
          go_wp2_with fail
          rw [← HP.out]
          refine ⟨_, rfl, ?_, hS.out ▸ (HbS.out _ hb.out)⟩
          rw [hS.out]
          exact own_base ho.out HSS.out
end Go.Proofs.Ytlknkhmhdmpdkaa
