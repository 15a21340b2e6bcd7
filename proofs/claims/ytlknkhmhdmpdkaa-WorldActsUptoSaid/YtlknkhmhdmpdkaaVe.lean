/-
  Files behind an act: the program's walk.
-/
import Derived.Test.YtlknkhmhdmpdkaaVd
namespace Go.Proofs.Ytlknkhmhdmpdkaa
open Go.RowKit Wm Mm Fl
set_option linter.unusedVariables false
set_option linter.unusedSimpArgs false

abbrev vAct (a : ActP) : Value := .agg (oAct a)
theorem first_idx {a : ActP} {l : List FileP} {k : Nat} (h : First (pName a) l k) : idx a.nam l = k :=
  idx_of a.nam l k h.le (fun i hi hik => by have := h.lo i hi hik; unfold pName at this; simpa using this) (fun hk => by have := h.at_ hk; unfold pName at this; simpa using this)
theorem flatF_setD : ∀ (l : List FileP) (k : Nat) (hk : k < l.length) (d : List UInt8), (l.flatMap rowF).set (k * 2 + 1) (str d) = (l.set k ⟨l[k].nam, d⟩).flatMap rowF
  | a :: r, 0, _, d => rfl
  | a :: r, k + 1, h, d => by
    have ih := flatF_setD r k (by simpa using h) d
    rw [List.set_cons_succ, List.flatMap_cons, List.flatMap_cons, show (k + 1) * 2 + 1 = k * 2 + 1 + 1 + 1 from by omega]
    simp only [List.getElem_cons_succ]
    rw [← ih]
    rfl

set_option maxHeartbeats 8000000 in
set_option maxRecDepth 100000 in
theorem act_law (a : ActP) (v : Value) (l : List FileP) (F : Nat → Prop) (w : World) (h : Fls F w v l) (hn : l.length ≤ 2000000) (hd : (datOf a.nam l).length ≤ 2000000000000) (ha : a.dat.length ≤ 2000000000000) :
    Calls Try.prog 15 #[v, vAct a] w fun e w' => ∃ v', e = .returned v' ∧ OwnF w.heap.size w' v' (actW l a) ∧ Below w.heap.size w w' := by
  obtain ⟨post, HP⟩ := hide (fun (e : Ending) (w' : World) => ∃ v', e = .returned v' ∧ OwnF w.heap.size w' v' (actW l a) ∧ Below w.heap.size w w')
  rw [HP.out]
  obtain ⟨ao, cap, rfl, hcap, hmax⟩ := h.slice
  obtain ⟨W, hW⟩ := hide (w.alloc (.cells (oAct a) 26))
  obtain ⟨B, hB⟩ := hide w.heap.size
  have hbx : W.heap[B]? = some (.cells (oAct a) 26 (0, 0)) := by rw [← hW.out, ← hB.out]; exact hp_at _ _ rfl
  have hb0 : Below B w W := by rw [← hW.out, ← hB.out]; exact (Below.refl _ _).alloc (Nat.le_refl _) _
  have hWs : W.heap.size = B + 1 := by rw [← hW.out, ← hB.out]; simp
  have hl := h.frame (Plain.good _) (Agree.below (by rw [hB.out]; exact hb0))
  have KC := Lib.hid (clone_fls _ l F W hl (by omega))
  obtain ⟨S, hS⟩ := hide W.heap.size
  have Hbox : Hid (∀ w', Below S W w' → w'.heap[B]? = some (.cells (oAct a) 26 (0, 0))) := fun w' hb => (hb.block B (by rw [← hS.out, hWs]; omega)).trans hbx
  have HBS : Hid (B < S) := by show _ < _; rw [← hS.out, hWs]; omega
  have HSW : Hid (S ≤ W.heap.size) := by show _ ≤ _; rw [hS.out]; exact Nat.le_refl _
  have Hfin : Hid (∀ e v' w', e = Ending.returned v' → OwnF S w' v' (actW l a) → Below S W w' → post e w') := by
    intro e v' w' he ho hb
    rw [← HP.out, hB.out]
    exact ⟨v', he, own_base ho (by have := HBS.out; omega), hb0.trans (hb.mono (by have := HBS.out; omega))⟩
  rw [hS.out] at KC
  have Hd := Lib.hid hd
  have Ha := Lib.hid ha
  have Hn := Lib.hid hn
  clear h hl hbx hb0 hWs hd ha hn hmax
  go_enter Try.func15, Try.ntmps15
  go_upto_region 1 with fail
  rw [hW.out, hB.out]
  go_wp2_with fail
  refine KC.out.mono ?_
  rintro e w1 ⟨v1, rfl, ho1, hb1⟩
  obtain ⟨a1, c1, rfl⟩ := owns_slice ho1
  have Ho1 := Lib.hid ho1
  have Hb1 := Lib.hid hb1
  have KI := Lib.hid (index_one (pName a) B _ l _ w1 (OwnF.fls ho1) (fun f w' hb => act1_law a B f w' (Hbox.out w' (hb1.trans (hb.mono (Nat.le_trans HSW.out hb1.size))))))
  clear ho1 hb1
  go_wp2_with fail
  refine KI.out.mono ?_
  rintro e w2 ⟨k, hk, rfl, hb2⟩
  have Ho2 := Lib.hid (own_below Ho1.out hb2)
  have HSw1 : Hid (S ≤ w1.heap.size) := Nat.le_trans HSW.out Hb1.out.size
  have Hb2 : Hid (Below S W w2) := Hb1.out.trans (hb2.mono HSw1.out)
  have HSw2 : Hid (S ≤ w2.heap.size) := Nat.le_trans HSw1.out hb2.size
  have Hki := Lib.hid (first_idx hk)
  have Hkl := Lib.hid hk.le
  obtain ⟨n, hnn⟩ : ∃ n, n = l.length := ⟨_, rfl⟩
  have Hnn := Lib.hid hnn
  have Hpl : Hid (placeI l k = if k < n then (k : Int) else -1) := by show _ = _; unfold placeI; rw [hnn]
  have ho2 : w2.ownsRow S 28 2 (.slice a1 n c1) n (l.flatMap rowF) := by rw [hnn]; exact Ho2.out
  have Ho2n := Lib.hid ho2
  rw [← hnn]
  rw [Hpl.out]
  have x0 := Hbox.out _ Hb2.out
  have x1 := cell_n x0 0 (v := .int .i64 a.what) rfl
  have x2 := cell_n x0 1 (v := str a.nam) rfl
  have x3 := cell_n x0 2 (v := str a.to) rfl
  have x4 := cell_n x0 3 (v := str a.dat) rfl
  have x5 := cell_n x0 4 (v := .int .i64 a.size) rfl
  have hact : actW l a = (let d := datOf a.nam l
    if a.what = 1 then (if k < n then l.set k ⟨a.nam, a.dat⟩ else l ++ [⟨a.nam, a.dat⟩])
    else if a.what = 2 then (if k < n then l.set k ⟨a.nam, d ++ a.dat⟩ else l ++ [⟨a.nam, a.dat⟩])
    else if a.what = 6 then (if k < n then l.set k ⟨a.nam, cutP a.size d⟩ else l)
    else if a.what = 7 then (if k < n then l.eraseIdx k else l)
    else if a.what = 4 then (if k < n then l.filter (fun f => !(f.nam == a.nam || f.nam == a.to)) ++ [⟨a.to, d⟩] else l)
    else l) := by unfold actW; simp only [Hki.out, hnn]
  have Hact := Lib.hid hact
  have hn2 : n ≤ 2000000 := by rw [hnn]; exact Hn.out
  clear hk hb2 x0 ho2 hnn hact
  by_cases b1 : a.what = 1
  · have t1 : (a.what == 1) = true := beq_iff_eq.2 b1
    by_cases hkn : k < n
    · rw [if_pos hkn]
      obtain ⟨g, hao⟩ : ∃ g, a1 = some ⟨g, 0, none⟩ := by
        rcases Ho2n.out.2 with ⟨hv, h0⟩ | ⟨g', cap', cur, hv, _⟩
        · omega
        · injection hv with e1; exact ⟨g', e1⟩
      subst hao
      have hkl : k < l.length := by rw [← Hnn.out]; exact hkn
      have hdd : datOf a.nam l = l[k].dat := by unfold datOf; rw [Hki.out, List.getElem?_eq_getElem hkl]
      have t9 : decide ((k : Int) < 0) = false := decide_eq_false (by omega)
      have hqL : k < l.length := by exact hkl
      obtain ⟨d0, d1⟩ := ownF_two Ho2n.out hqL
      have f1 := own_free Ho2n.out (k * 2 + 1)
      have hSg := (own_lt Ho2n.out).2.2.1
      have HSg := Lib.hid hSg
      have HS9 := Lib.hid (fun d => flatF_setD l k hqL d)
      have hnmL : l[k].nam = a.nam := by (have h8 := idx_at a.nam l (by rw [Hki.out]; exact hkl); simpa only [Hki.out] using h8)
      rw [hnmL] at HS9
      obtain ⟨y, hy⟩ := hide l[k]
      rw [hy.out] at d0 d1
      clear hSg
      have hact : actW l a = l.set k ⟨a.nam, a.dat⟩ := by rw [Hact.out]; simp [b1, hkn]
      have Hac := Lib.hid hact
      clear b1 hact hdd
      go_upto_region 11 with fail
      obtain ⟨V, hV⟩ := hide (w2.setCell ⟨g, k * 2 + 1, none⟩ (str []))
      rw [hV.out]
      have HoV : Hid (V.ownsRow S 28 2 (.slice (some ⟨g, 0, none⟩) n c1) n ((l.flatMap rowF).set (k * 2 + 1) (str []))) := by show World.ownsRow _ _ _ _ _ _ _; rw [← hV.out]; exact own_put Ho2n.out _ _
      have HbV : Hid (Below S W V) := by show Below _ _ _; rw [← hV.out]; exact Hb2.out.setCell (p := ⟨g, k * 2 + 1, none⟩) HSg.out _
      have e1 := own_cell HoV.out (i := k * 2 + 1) (u := str []) (by rw [List.getElem?_set_self (by rw [flat_len rowF rowF_len]; omega)])
      have e2 := own_free HoV.out (k * 2 + 1)
      have z0 := Hbox.out _ HbV.out
      have z3 := cell_n z0 3 (v := str a.dat) rfl
      have hcc : ¬ 9223372036854775807 < a.dat.length := by have := Ha.out; omega
      clear z0 d0 d1 f1 x1 x2 x3 x4 x5
      have HoS : Hid ((V.drew.setCell ⟨g, k * 2 + 1, none⟩ (str a.dat)).ownsRow S 28 2 (.slice (some ⟨g, 0, none⟩) n c1) n ((l.set k ⟨a.nam, a.dat⟩).flatMap rowF)) := by
        show World.ownsRow _ _ _ _ _ _ _
        rw [← HS9.out]
        have h9 := own_put (World.ownsRow.drew HoV.out) (k * 2 + 1) (str a.dat)
        rw [List.set_set] at h9
        exact h9
      have HbS : Hid (Below S W (V.drew.setCell ⟨g, k * 2 + 1, none⟩ (str a.dat))) := HbV.out.drew.setCell (p := ⟨g, k * 2 + 1, none⟩) HSg.out _
      go_region
      all_goals
        have HoF : Hid (OwnF S (V.drew.setCell ⟨g, k * 2 + 1, none⟩ (str a.dat)) (.slice (some ⟨g, 0, none⟩) n c1) (l.set k ⟨a.nam, a.dat⟩)) := by
          show World.ownsRow _ _ _ _ _ _ _
          rw [List.length_set, ← Hnn.out]
          exact HoS.out
        go_wp2_with fail
        refine Hfin.out _ _ _ rfl ?_ HbS.out
        rw [Hac.out]
        exact HoF.out
    · rw [if_neg hkn]
      have t9 : decide ((-1 : Int) < 0) = true := by decide
      have HLB : Hid (n ≤ 2000000) := hn2
      go_wp2_with (at_builtin; refine wpList_push rfl _ _ 23 rfl S 28 _ 2 32 Try.underlying23 info_fil rfl (by decide) _ _ _ rfl Ho2n.out _ rfl rfl (by intro u hu; simp at hu; rcases hu with hu | hu <;> (subst hu; rfl)) (by have := HLB.out; unfold maxLen; omega) (by have := HLB.out; omega) HSw2.out ?_)
      intro v3 w3 ho3 hg3
      obtain ⟨a3, c3, rfl⟩ := owns_slice ho3
      have Hb3 : Hid (Below S W w3) := Hb2.out.trans (below_own Ho2n.out hg3 (Nat.le_refl _) HSw2.out)
      obtain ⟨L, hL⟩ := hide (l ++ [(⟨a.nam, []⟩ : FileP)])
      have HLl : Hid (L.length = n + 1) := by show _ = _; rw [← hL.out, List.length_append, ← Hnn.out]; rfl
      have HO3 : Hid (w3.ownsRow S 28 2 (.slice a3 (n + 1) c3) (n + 1) (L.flatMap rowF)) := by
        show w3.ownsRow _ _ _ _ _ _
        rw [← hL.out, List.flatMap_append]
        exact ho3
      obtain ⟨g, hao⟩ : ∃ g, a3 = some ⟨g, 0, none⟩ := by
        rcases HO3.out.2 with ⟨hv, h0⟩ | ⟨g', cap', cur, hv, _⟩
        · omega
        · injection hv with e1; exact ⟨g', e1⟩
      subst hao
      have hLn : L[n]? = some ⟨a.nam, []⟩ := by rw [← hL.out, List.getElem?_append_right (by rw [Hnn.out]; exact Nat.le_refl _), ← Hnn.out, Nat.sub_self]; rfl
      have z9 := Hbox.out _ Hb3.out
      have x1 := cell_n z9 0 (v := .int .i64 a.what) rfl
      have x4 := cell_n z9 3 (v := str a.dat) rfl
      clear ho3 hg3 z9
      have hqL : n < L.length := by (rw [HLl.out]; omega)
      obtain ⟨d0, d1⟩ := ownF_two HO3.out hqL
      have f1 := own_free HO3.out (n * 2 + 1)
      have hSg := (own_lt HO3.out).2.2.1
      have HSg := Lib.hid hSg
      have HS9 := Lib.hid (fun d => flatF_setD L n hqL d)
      have hnmL : L[n].nam = a.nam := by (have := hLn; rw [List.getElem?_eq_getElem hqL] at this; rw [Option.some.inj this])
      rw [hnmL] at HS9
      obtain ⟨y, hy⟩ := hide L[n]
      rw [hy.out] at d0 d1
      clear hSg
      have hact : actW l a = L.set n ⟨a.nam, a.dat⟩ := by rw [Hact.out, ← hL.out, Hnn.out, List.set_append_right _ _ (Nat.le_refl _), Nat.sub_self]; simp [b1, ← Hnn.out, hkn]
      have Hac := Lib.hid hact
      clear b1 hact
      go_upto_region 11 with fail
      obtain ⟨V, hV⟩ := hide (w3.setCell ⟨g, n * 2 + 1, none⟩ (str []))
      rw [hV.out]
      have HoV : Hid (V.ownsRow S 28 2 (.slice (some ⟨g, 0, none⟩) (n + 1) c3) (n + 1) ((L.flatMap rowF).set (n * 2 + 1) (str []))) := by show World.ownsRow _ _ _ _ _ _ _; rw [← hV.out]; exact own_put HO3.out _ _
      have HbV : Hid (Below S W V) := by show Below _ _ _; rw [← hV.out]; exact Hb3.out.setCell (p := ⟨g, n * 2 + 1, none⟩) HSg.out _
      have e1 := own_cell HoV.out (i := n * 2 + 1) (u := str []) (by rw [List.getElem?_set_self (by rw [flat_len rowF rowF_len]; omega)])
      have e2 := own_free HoV.out (n * 2 + 1)
      have z0 := Hbox.out _ HbV.out
      have z3 := cell_n z0 3 (v := str a.dat) rfl
      have hcc : ¬ 9223372036854775807 < a.dat.length := by have := Ha.out; omega
      clear z0 d0 d1 f1 x1 x2 x3 x4 x5
      have HoS : Hid ((V.drew.setCell ⟨g, n * 2 + 1, none⟩ (str a.dat)).ownsRow S 28 2 (.slice (some ⟨g, 0, none⟩) (n + 1) c3) (n + 1) ((L.set n ⟨a.nam, a.dat⟩).flatMap rowF)) := by
        show World.ownsRow _ _ _ _ _ _ _
        rw [← HS9.out]
        have h9 := own_put (World.ownsRow.drew HoV.out) (n * 2 + 1) (str a.dat)
        rw [List.set_set] at h9
        exact h9
      have HbS : Hid (Below S W (V.drew.setCell ⟨g, n * 2 + 1, none⟩ (str a.dat))) := HbV.out.drew.setCell (p := ⟨g, n * 2 + 1, none⟩) HSg.out _
      go_region
      all_goals
        have HoF : Hid (OwnF S (V.drew.setCell ⟨g, n * 2 + 1, none⟩ (str a.dat)) (.slice (some ⟨g, 0, none⟩) (n + 1) c3) (L.set n ⟨a.nam, a.dat⟩)) := by
          show World.ownsRow _ _ _ _ _ _ _
          rw [List.length_set, HLl.out]
          exact HoS.out
        go_wp2_with fail
        refine Hfin.out _ _ _ rfl ?_ HbS.out
        rw [Hac.out]
        exact HoF.out
  by_cases b2 : a.what = 2
  · have t1 : (a.what == 1) = false := beq_eq_false_iff_ne.2 b1
    have t2 : (a.what == 2) = true := beq_iff_eq.2 b2
    by_cases hkn : k < n
    · rw [if_pos hkn]
      obtain ⟨g, hao⟩ : ∃ g, a1 = some ⟨g, 0, none⟩ := by
        rcases Ho2n.out.2 with ⟨hv, h0⟩ | ⟨g', cap', cur, hv, _⟩
        · omega
        · injection hv with e1; exact ⟨g', e1⟩
      subst hao
      have hkl : k < l.length := by rw [← Hnn.out]; exact hkn
      have hdd : datOf a.nam l = l[k].dat := by unfold datOf; rw [Hki.out, List.getElem?_eq_getElem hkl]
      have t9 : decide ((k : Int) < 0) = false := decide_eq_false (by omega)
      have hqL : k < l.length := by exact hkl
      obtain ⟨d0, d1⟩ := ownF_two Ho2n.out hqL
      have f1 := own_free Ho2n.out (k * 2 + 1)
      have hSg := (own_lt Ho2n.out).2.2.1
      have HSg := Lib.hid hSg
      have HS9 := Lib.hid (fun d => flatF_setD l k hqL d)
      have hnmL : l[k].nam = a.nam := by (have h8 := idx_at a.nam l (by rw [Hki.out]; exact hkl); simpa only [Hki.out] using h8)
      rw [hnmL] at HS9
      obtain ⟨y, hy⟩ := hide l[k]
      rw [hy.out] at d0 d1
      clear hSg
      have hact : actW l a = l.set k ⟨a.nam, y.dat ++ a.dat⟩ := by rw [Hact.out, hdd, hy.out]; simp [b2, hkn]
      have Hac := Lib.hid hact
      have Hyd : Hid (y.dat.length ≤ 2000000000000) := by have := Hd.out; rw [hdd, hy.out] at this; exact this
      clear b1 b2 hact hdd
      go_upto_region 11 with fail
      have hcc : ¬ 9223372036854775807 < y.dat.length + a.dat.length := by have := Ha.out; have := Hyd.out; omega
      have HoS : Hid ((w2.drew.setCell ⟨g, k * 2 + 1, none⟩ (str (y.dat ++ a.dat))).ownsRow S 28 2 (.slice (some ⟨g, 0, none⟩) n c1) n ((l.set k ⟨a.nam, y.dat ++ a.dat⟩).flatMap rowF)) := by
        show World.ownsRow _ _ _ _ _ _ _
        rw [← HS9.out]
        exact own_put (World.ownsRow.drew Ho2n.out) _ _
      have HbS : Hid (Below S W (w2.drew.setCell ⟨g, k * 2 + 1, none⟩ (str (y.dat ++ a.dat)))) := Hb2.out.drew.setCell (p := ⟨g, k * 2 + 1, none⟩) HSg.out _
      go_region
      all_goals
        have HoF : Hid (OwnF S (w2.drew.setCell ⟨g, k * 2 + 1, none⟩ (str (y.dat ++ a.dat))) (.slice (some ⟨g, 0, none⟩) n c1) (l.set k ⟨a.nam, y.dat ++ a.dat⟩)) := by
          show World.ownsRow _ _ _ _ _ _ _
          rw [List.length_set, ← Hnn.out]
          exact HoS.out
        go_wp2_with fail
        refine Hfin.out _ _ _ rfl ?_ HbS.out
        rw [Hac.out]
        exact HoF.out
    · rw [if_neg hkn]
      have t9 : decide ((-1 : Int) < 0) = true := by decide
      have HLB : Hid (n ≤ 2000000) := hn2
      go_wp2_with (at_builtin; refine wpList_push rfl _ _ 23 rfl S 28 _ 2 32 Try.underlying23 info_fil rfl (by decide) _ _ _ rfl Ho2n.out _ rfl rfl (by intro u hu; simp at hu; rcases hu with hu | hu <;> (subst hu; rfl)) (by have := HLB.out; unfold maxLen; omega) (by have := HLB.out; omega) HSw2.out ?_)
      intro v3 w3 ho3 hg3
      obtain ⟨a3, c3, rfl⟩ := owns_slice ho3
      have Hb3 : Hid (Below S W w3) := Hb2.out.trans (below_own Ho2n.out hg3 (Nat.le_refl _) HSw2.out)
      obtain ⟨L, hL⟩ := hide (l ++ [(⟨a.nam, []⟩ : FileP)])
      have HLl : Hid (L.length = n + 1) := by show _ = _; rw [← hL.out, List.length_append, ← Hnn.out]; rfl
      have HO3 : Hid (w3.ownsRow S 28 2 (.slice a3 (n + 1) c3) (n + 1) (L.flatMap rowF)) := by
        show w3.ownsRow _ _ _ _ _ _
        rw [← hL.out, List.flatMap_append]
        exact ho3
      obtain ⟨g, hao⟩ : ∃ g, a3 = some ⟨g, 0, none⟩ := by
        rcases HO3.out.2 with ⟨hv, h0⟩ | ⟨g', cap', cur, hv, _⟩
        · omega
        · injection hv with e1; exact ⟨g', e1⟩
      subst hao
      have hLn : L[n]? = some ⟨a.nam, []⟩ := by rw [← hL.out, List.getElem?_append_right (by rw [Hnn.out]; exact Nat.le_refl _), ← Hnn.out, Nat.sub_self]; rfl
      have z9 := Hbox.out _ Hb3.out
      have x1 := cell_n z9 0 (v := .int .i64 a.what) rfl
      have x4 := cell_n z9 3 (v := str a.dat) rfl
      clear ho3 hg3 z9
      have hqL : n < L.length := by (rw [HLl.out]; omega)
      obtain ⟨d0, d1⟩ := ownF_two HO3.out hqL
      have f1 := own_free HO3.out (n * 2 + 1)
      have hSg := (own_lt HO3.out).2.2.1
      have HSg := Lib.hid hSg
      have HS9 := Lib.hid (fun d => flatF_setD L n hqL d)
      have hnmL : L[n].nam = a.nam := by (have := hLn; rw [List.getElem?_eq_getElem hqL] at this; rw [Option.some.inj this])
      rw [hnmL] at HS9
      obtain ⟨y, hy⟩ := hide L[n]
      rw [hy.out] at d0 d1
      clear hSg
      have hyd : y.dat = [] := by have := hLn; rw [List.getElem?_eq_getElem hqL, hy.out] at this; rw [Option.some.inj this]
      have hact : actW l a = L.set n ⟨a.nam, y.dat ++ a.dat⟩ := by rw [Hact.out, ← hL.out, Hnn.out, List.set_append_right _ _ (Nat.le_refl _), Nat.sub_self, hyd]; simp [b2, ← Hnn.out, hkn]
      have Hac := Lib.hid hact
      have Hyd : Hid (y.dat.length ≤ 2000000000000) := by rw [hyd]; exact Nat.zero_le _
      clear b1 b2 hact hyd
      go_upto_region 11 with fail
      have hcc : ¬ 9223372036854775807 < y.dat.length + a.dat.length := by have := Ha.out; have := Hyd.out; omega
      have HoS : Hid ((w3.drew.setCell ⟨g, n * 2 + 1, none⟩ (str (y.dat ++ a.dat))).ownsRow S 28 2 (.slice (some ⟨g, 0, none⟩) (n + 1) c3) (n + 1) ((L.set n ⟨a.nam, y.dat ++ a.dat⟩).flatMap rowF)) := by
        show World.ownsRow _ _ _ _ _ _ _
        rw [← HS9.out]
        exact own_put (World.ownsRow.drew HO3.out) _ _
      have HbS : Hid (Below S W (w3.drew.setCell ⟨g, n * 2 + 1, none⟩ (str (y.dat ++ a.dat)))) := Hb3.out.drew.setCell (p := ⟨g, n * 2 + 1, none⟩) HSg.out _
      go_region
      all_goals
        have HoF : Hid (OwnF S (w3.drew.setCell ⟨g, n * 2 + 1, none⟩ (str (y.dat ++ a.dat))) (.slice (some ⟨g, 0, none⟩) (n + 1) c3) (L.set n ⟨a.nam, y.dat ++ a.dat⟩)) := by
          show World.ownsRow _ _ _ _ _ _ _
          rw [List.length_set, HLl.out]
          exact HoS.out
        go_wp2_with fail
        refine Hfin.out _ _ _ rfl ?_ HbS.out
        rw [Hac.out]
        exact HoF.out
  by_cases b6 : a.what = 6
  · have t1 : (a.what == 1) = false := beq_eq_false_iff_ne.2 b1
    have t2 : (a.what == 2) = false := beq_eq_false_iff_ne.2 b2
    have t6 : (a.what == 6) = true := beq_iff_eq.2 b6
    by_cases hkn : k < n
    · rw [if_pos hkn]
      obtain ⟨g, hao⟩ : ∃ g, a1 = some ⟨g, 0, none⟩ := by
        rcases Ho2n.out.2 with ⟨hv, h0⟩ | ⟨g', cap', cur, hv, _⟩
        · omega
        · injection hv with e1; exact ⟨g', e1⟩
      subst hao
      have hkl : k < l.length := by rw [← Hnn.out]; exact hkn
      have hdd : datOf a.nam l = l[k].dat := by unfold datOf; rw [Hki.out, List.getElem?_eq_getElem hkl]
      have hnm : l[k].nam = a.nam := by
        have h8 := idx_at a.nam l (by rw [Hki.out]; exact hkl)
        simpa only [Hki.out] using h8
      have hact : actW l a = l.set k ⟨l[k].nam, cutP a.size l[k].dat⟩ := by rw [Hact.out]; simp [b6, hkn, hdd, hnm]
      obtain ⟨d0, d1⟩ := ownF_two Ho2n.out hkl
      have f1 := own_free Ho2n.out (k * 2 + 1)
      have HS9 := Lib.hid (fun d => flatF_setD l k hkl d)
      obtain ⟨y, hy⟩ := hide l[k]
      rw [hy.out] at d0 d1 hact HS9
      have Hac := Lib.hid hact
      have t9 : decide ((0 : Int) ≤ (k : Int)) = true := decide_eq_true (by omega)
      clear b1 b2 b6 hact hdd hnm
      obtain ⟨M, hM⟩ := hide (if a.size < 0 then (0 : Int) else a.size)
      have hM2 := hM.out
      have hM0 : M = max a.size 0 := by rw [← hM2]; split <;> omega
      obtain ⟨q, hq⟩ := hide (min (max a.size 0) (y.dat.length : Int)).toNat
      have hq1 : (if (y.dat.length : Int) < M then (y.dat.length : Int) else M) = (q : Int) := by rw [← hq.out, hM0]; split <;> omega
      have hql : q ≤ y.dat.length := by have := hq.out; omega
      have hcut : cutP a.size y.dat = y.dat.take q := by unfold cutP; rw [hq.out]
      rw [hcut] at Hac
      have HsD := Lib.hid (HS9.out (y.dat.take q))
      have HoS : Hid ((w2.setCell ⟨g, k * 2 + 1, none⟩ (str (y.dat.take q))).drew.ownsRow S 28 2 (.slice (some ⟨g, 0, none⟩) n c1) n ((l.set k ⟨y.nam, y.dat.take q⟩).flatMap rowF)) := by
        show World.ownsRow _ _ _ _ _ _ _
        rw [← HsD.out]
        exact World.ownsRow.drew (own_put Ho2n.out _ _)
      have HbS : Hid (Below S W (w2.setCell ⟨g, k * 2 + 1, none⟩ (str (y.dat.take q))).drew) := (Hb2.out.setCell (p := ⟨g, k * 2 + 1, none⟩) (own_lt Ho2n.out).2.2.1 _).drew
      have p1 : (q : Int) ≤ (y.dat.length : Int) := by omega
      clear hcut hM0
      go_upto_region 14 with fail
      go_region
      all_goals
        have HoF : Hid (OwnF S (w2.setCell ⟨g, k * 2 + 1, none⟩ (str (y.dat.take q))).drew (.slice (some ⟨g, 0, none⟩) n c1) (l.set k ⟨y.nam, y.dat.take q⟩)) := by
          show World.ownsRow _ _ _ _ _ _ _
          rw [List.length_set, ← Hnn.out]
          exact HoS.out
        go_wp2_with fail
        refine Hfin.out _ _ _ rfl ?_ HbS.out
        rw [Hac.out]
        exact HoF.out
    · rw [if_neg hkn]
      have hact : actW l a = l := by rw [Hact.out]; simp [b6, hkn]
      have Hac := Lib.hid hact
      have t9 : decide ((0 : Int) ≤ -1) = false := by decide
      clear b1 b2 b6 hact
      go_wp2_with fail
      refine Hfin.out _ _ _ rfl ?_ Hb2.out
      rw [Hac.out]
      show World.ownsRow _ _ _ _ _ _ _
      rw [← Hnn.out]
      exact Ho2n.out
  by_cases b7 : a.what = 7
  · have t1 : (a.what == 1) = false := beq_eq_false_iff_ne.2 b1
    have t2 : (a.what == 2) = false := beq_eq_false_iff_ne.2 b2
    have t6 : (a.what == 6) = false := beq_eq_false_iff_ne.2 b6
    have t7 : (a.what == 7) = true := beq_iff_eq.2 b7
    by_cases hkn : k < n
    · rw [if_pos hkn]
      obtain ⟨g, hao⟩ : ∃ g, a1 = some ⟨g, 0, none⟩ := by
        rcases Ho2n.out.2 with ⟨hv, h0⟩ | ⟨g', cap', cur, hv, _⟩
        · omega
        · injection hv with e1; exact ⟨g', e1⟩
      subst hao
      have hact : actW l a = l.eraseIdx k := by rw [Hact.out]; simp [b7, hkn]
      have Hac := Lib.hid hact
      have KD := Lib.hid (delete_law S g n c1 k l w2 Ho2n.out Hnn.out hkn HSw2.out (by omega))
      have t9 : decide ((0 : Int) ≤ (k : Int)) = true := decide_eq_true (by omega)
      clear b1 b2 b6 b7 hact
      go_wp2_with fail
      refine KD.out.mono ?_
      rintro e w3 ⟨v3, rfl, ho3, hb3⟩
      obtain ⟨a3, c3, rfl⟩ := owns_slice ho3
      have Ho3 := Lib.hid ho3
      have Hb3 := Lib.hid (Hb2.out.trans hb3)
      clear ho3 hb3
      go_wp2_with fail
      refine Hfin.out _ _ _ rfl ?_ Hb3.out
      rw [Hac.out]
      exact Ho3.out
    · rw [if_neg hkn]
      have hact : actW l a = l := by rw [Hact.out]; simp [b7, hkn]
      have Hac := Lib.hid hact
      have t9 : decide ((0 : Int) ≤ -1) = false := by decide
      clear b1 b2 b6 b7 hact
      go_wp2_with fail
      refine Hfin.out _ _ _ rfl ?_ Hb2.out
      rw [Hac.out]
      show World.ownsRow _ _ _ _ _ _ _
      rw [← Hnn.out]
      exact Ho2n.out
  by_cases b4 : a.what = 4
  · have t1 : (a.what == 1) = false := beq_eq_false_iff_ne.2 b1
    have t2 : (a.what == 2) = false := beq_eq_false_iff_ne.2 b2
    have t6 : (a.what == 6) = false := beq_eq_false_iff_ne.2 b6
    have t7 : (a.what == 7) = false := beq_eq_false_iff_ne.2 b7
    have t4 : (a.what == 4) = true := beq_iff_eq.2 b4
    by_cases hkn : k < n
    · rw [if_pos hkn]
      obtain ⟨g, hao⟩ : ∃ g, a1 = some ⟨g, 0, none⟩ := by
        rcases Ho2n.out.2 with ⟨hv, h0⟩ | ⟨g', cap', cur, hv, _⟩
        · omega
        · injection hv with e1; exact ⟨g', e1⟩
      subst hao
      have hkl : k < l.length := by rw [← Hnn.out]; exact hkn
      have hdd : datOf a.nam l = l[k].dat := by unfold datOf; rw [Hki.out, List.getElem?_eq_getElem hkl]
      have hact : actW l a = l.filter (fun f => !(pBoth a f)) ++ [⟨a.to, l[k].dat⟩] := by rw [Hact.out]; simp only [b4, hkn, hdd]; rfl
      obtain ⟨d0, d1⟩ := ownF_two Ho2n.out hkl
      obtain ⟨y, hy⟩ := hide l[k]
      rw [hy.out] at d0 d1 hact
      obtain ⟨L, hL⟩ := hide (l.filter (fun f => !(pBoth a f)))
      have KD := Lib.hid (deleteFunc_law a S B g n c1 l w2 Ho2n.out Hnn.out HSw2.out (by omega) HBS.out (Hbox.out _ Hb2.out))
      have hLl : L.length ≤ 2000000 := by rw [← hL.out]; exact Nat.le_trans (List.length_filter_le _ _) Hn.out
      rw [hL.out] at KD hact
      have Hac := Lib.hid hact
      have HLl := Lib.hid hLl
      have t9 : decide ((0 : Int) ≤ (k : Int)) = true := decide_eq_true (by omega)
      clear b1 b2 b6 b7 b4 hact hdd
      go_wp2_with fail
      refine KD.out.mono ?_
      rintro e w3 ⟨v3, rfl, ho3, hb3⟩
      obtain ⟨a3, c3, rfl⟩ := owns_slice ho3
      have Ho3 := Lib.hid ho3
      have Hb3 : Hid (Below S W w3) := Hb2.out.trans hb3
      have HS3 : Hid (S ≤ w3.heap.size) := by show S ≤ _; have := Hb3.out.size; have := HSW.out; omega
      have z0 := Hbox.out _ Hb3.out
      have z3 := cell_n z0 2 (v := str a.to) rfl
      clear ho3 hb3 x1 x2 x3 x4 x5 d0 d1 z0
      go_wp2_with (at_builtin; refine wpList_push rfl _ _ 23 rfl S 28 _ 2 32 Try.underlying23 info_fil rfl (by decide) _ _ _ rfl Ho3.out _ rfl rfl (by intro u hu; simp at hu; rcases hu with hu | hu <;> (subst hu; rfl)) (by have := HLl.out; unfold maxLen; omega) (by have := HLl.out; omega) HS3.out ?_)
      intro v4 w4 ho4 hg4
      obtain ⟨a4', c4, rfl⟩ := owns_slice ho4
      have Ho4 : Hid (OwnF S w4 (.slice a4' (L ++ [(⟨a.to, y.dat⟩ : FileP)]).length c4) (L ++ [(⟨a.to, y.dat⟩ : FileP)])) := by
        show w4.ownsRow _ _ _ _ _ _
        rw [List.length_append, List.flatMap_append]
        exact ho4
      have Hb4 : Hid (Below S W w4) := Hb3.out.trans (below_own Ho3.out hg4 (Nat.le_refl _) HS3.out)
      have hL4 : (L ++ [(⟨a.to, y.dat⟩ : FileP)]).length = L.length + 1 := by rw [List.length_append]; rfl
      rw [hL4] at Ho4
      have HL4 := Lib.hid hL4
      clear ho4 hg4 hL4
      go_wp2_with fail
      refine Hfin.out _ _ _ rfl ?_ Hb4.out
      rw [Hac.out]
      exact Ho4.out
    · rw [if_neg hkn]
      have hact : actW l a = l := by rw [Hact.out]; simp [b4, hkn]
      have Hac := Lib.hid hact
      have t9 : decide ((0 : Int) ≤ -1) = false := by decide
      clear b1 b2 b6 b7 b4 hact
      go_wp2_with fail
      refine Hfin.out _ _ _ rfl ?_ Hb2.out
      rw [Hac.out]
      show World.ownsRow _ _ _ _ _ _ _
      rw [← Hnn.out]
      exact Ho2n.out
  · have t1 : (a.what == 1) = false := beq_eq_false_iff_ne.2 b1
    have t2 : (a.what == 2) = false := beq_eq_false_iff_ne.2 b2
    have t6 : (a.what == 6) = false := beq_eq_false_iff_ne.2 b6
    have t7 : (a.what == 7) = false := beq_eq_false_iff_ne.2 b7
    have t4 : (a.what == 4) = false := beq_eq_false_iff_ne.2 b4
    have hact : actW l a = l := by rw [Hact.out]; simp only [b1, b2, b6, b7, b4, if_false]
    have Hac := Lib.hid hact
    clear b1 b2 b6 b7 b4 hact
    go_wp2_with fail
    all_goals
      refine Hfin.out _ _ _ rfl ?_ Hb2.out
      rw [Hac.out]
      show World.ownsRow _ _ _ _ _ _ _
      rw [← Hnn.out]
      exact Ho2n.out
end Go.Proofs.Ytlknkhmhdmpdkaa
