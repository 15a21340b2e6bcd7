/-
  Files: what slices.DeleteFunc leaves, in place.
-/
import Derived.Test.YtlknkhmhdmpdkaaVc
namespace Go.Proofs.Ytlknkhmhdmpdkaa
open Go.RowKit Wm Mm Fl
set_option linter.unusedVariables false
set_option linter.unusedSimpArgs false

theorem takeF_one (l : List FileP) {k : Nat} (h : k < l.length) : l.take (k + 1) = l.take k ++ [l[k]] := by rw [List.take_add_one, List.getElem?_eq_getElem h]; rfl
theorem keep_step (p : FileP → Bool) (l : List FileP) {k : Nat} (h : k < l.length) : (l.take (k + 1)).filter (fun f => !(p f)) = (l.take k).filter (fun f => !(p f)) ++ if p l[k] then [] else [l[k]] := by
  rw [takeF_one l h, List.filter_append]
  congr 1
  by_cases hp : p l[k] = true
  · rw [if_pos hp]; simp [hp]
  · rw [if_neg hp]; simp [hp]
theorem First.head {p : FileP → Bool} {l : List FileP} {k : Nat} (h : First p l k) : (l.take k).filter (fun f => !(p f)) = l.take k := List.filter_eq_self.2 (fun f hf => by
  obtain ⟨i, hi, rfl⟩ := List.getElem_of_mem hf
  rw [List.length_take] at hi
  rw [List.getElem_take, h.lo i (by omega) (by omega)]
  rfl)
theorem ownF_two {w : World} {S n g cap : Nat} {l : List FileP} (h : w.ownsRow S 28 2 (.slice (some ⟨g, 0, none⟩) n cap) n (l.flatMap rowF)) {k : Nat} (hk : k < l.length) :
    w.cell? ⟨g, k * 2, none⟩ = some (str l[k].nam) ∧ w.cell? ⟨g, k * 2 + 1, none⟩ = some (str l[k].dat) := ⟨own_cell h (getF_two l k hk).1, own_cell h (getF_two l k hk).2⟩
theorem ownF_set2 {w : World} {S n g cap : Nat} {l : List FileP} (h : w.ownsRow S 28 2 (.slice (some ⟨g, 0, none⟩) n cap) n (l.flatMap rowF)) {k : Nat} (hk : k < l.length) (y : FileP) :
    ((w.setCell ⟨g, k * 2, none⟩ (str y.nam)).setCell ⟨g, k * 2 + 1, none⟩ (str y.dat)).ownsRow S 28 2 (.slice (some ⟨g, 0, none⟩) n cap) n ((l.set k y).flatMap rowF) := by
  rw [← flatF_set2 l k y hk]
  exact own_put (own_put h _ _) _ _

set_option maxHeartbeats 4000000 in
set_option maxRecDepth 100000 in
theorem deleteFunc_law (a : ActP) (S B g n cap : Nat) (l : List FileP) (w : World) (h : w.ownsRow S 28 2 (.slice (some ⟨g, 0, none⟩) n cap) n (l.flatMap rowF)) (hl : n = l.length) (hS : S ≤ w.heap.size) (hn : n ≤ 4398046511000) (hB : B < S) (hbx : w.heap[B]? = some (.cells (oAct a) 26 (0, 0))) :
    Calls Try.prog 103 #[.slice (some ⟨g, 0, none⟩) n cap, .func (.func 104) #[] #[.pointer (some ⟨B, 0, none⟩)]] w fun e w' => ∃ v', e = .returned v' ∧ OwnF S w' v' (l.filter (fun f => !(pBoth a f))) ∧ Below S w w' := by
  obtain ⟨post, HP⟩ := hide (fun (e : Ending) (w' : World) => ∃ v', e = .returned v' ∧ OwnF S w' v' (l.filter (fun f => !(pBoth a f))) ∧ Below S w w')
  rw [HP.out]
  obtain ⟨hnc, hcm, hSg, hgw⟩ := own_lt h
  have hfl : OwnF S w (.slice (some ⟨g, 0, none⟩) l.length cap) l := by show w.ownsRow _ _ _ _ _ _; rw [← hl]; exact h
  have Hbox : Hid (∀ w', Below S w w' → w'.heap[B]? = some (.cells (oAct a) 26 (0, 0))) := fun w' hb => (hb.block B hB).trans hbx
  have KI := Lib.hid (index_both (pBoth a) B (.slice (some ⟨g, 0, none⟩) l.length cap) l _ w (OwnF.fls hfl) (fun f w' hb => act2_law a B f w' (Hbox.out w' (hb.mono hS))))
  have KC : Hid (∀ f w', Below S w w' → Calls Try.prog 104 #[.agg #[str f.nam, str f.dat], .pointer (some ⟨B, 0, none⟩)] w' fun e w'' => e = .returned (.bool (pBoth a f)) ∧ Below w'.heap.size w' w'') := fun f w' hb => act2_law a B f w' (Hbox.out w' hb)
  have Ho := Lib.hid h
  have Hl := Lib.hid hl
  have HSg := Lib.hid hSg
  have HSw := Lib.hid hS
  rw [← hl] at KI
  obtain ⟨p, hp⟩ := hide (pBoth a)
  rw [hp.out] at KI KC HP
  clear h hl hSg hgw hfl hS hbx
  go_enter Try.func103, Try.ntmps103
  go_wp2_with fail
  refine KI.out.mono ?_
  rintro e w1 ⟨k, hk, rfl, hb1⟩
  have Ho1 := Lib.hid (own_below Ho.out hb1)
  have Hb1 : Hid (Below S w w1) := hb1.mono HSw.out
  have HSw1 : Hid (S ≤ w1.heap.size) := Nat.le_trans HSw.out hb1.size
  have Hk := Lib.hid hk
  clear hb1 hk
  by_cases hkn : k < n
  · have hpl : placeI l k = (k : Int) := by unfold placeI; rw [if_pos (by rw [← Hl.out]; exact hkn)]
    rw [hpl]
    have t0 : ((k : Int) == -1) = false := beq_eq_false_iff_ne.2 (by omega)
    clear hpl
    go_wp2_with fail
    go_loopw [5, 6] (fun s5 s6 wr => ∃ (kk j : Nat) (cur : List FileP), s5 = .int .i64 kk ∧ s6 = .int .i64 j ∧ j ≤ n ∧ kk < j ∧ Hid (cur.length = n) ∧ Hid (wr.ownsRow S 28 2 (.slice (some ⟨g, 0, none⟩) n cap) n (cur.flatMap rowF)) ∧ Hid (Below S w wr) ∧ Hid (∀ i, j ≤ i → cur[i]? = l[i]?) ∧ Hid (cur.take kk = (l.take j).filter (fun f => !(p f)))) (fun _ s6 _ => n - (intOf s6).toNat)
    case atStart =>
      refine ⟨k, k + 1, l, rfl, by go_num, by omega, by omega, Hl.out.symm, Ho1, Hb1, fun _ _ => rfl, ?_⟩
      show _ = _
      have hkl : k < l.length := by rw [← Hl.out]; exact hkn
      rw [keep_step p l hkl, Hk.out.head, if_pos (Hk.out.at_ hkl), List.append_nil]
    case round =>
      obtain ⟨kk, j, cur, rfl, rfl, hjn, hkk, hcl, ho, hb, hcu, hct⟩ := hrel
      have HSr : Hid (S ≤ wr.heap.size) := Nat.le_trans HSw.out (by have := hb.out.size; exact this)
      by_cases hlt : j < n
      · have hjl : j < l.length := by rw [← Hl.out]; exact hlt
        have hjc : j < cur.length := by rw [hcl.out]; exact hlt
        have hkc : kk < cur.length := by rw [hcl.out]; omega
        have ex : cur[j] = l[j] := by
          have := hcu.out j (Nat.le_refl _)
          rw [List.getElem?_eq_getElem hjc, List.getElem?_eq_getElem hjl] at this
          exact Option.some.inj this
        obtain ⟨c0, c1⟩ := ownF_two ho.out hjc
        have hst := keep_step p l hjl
        rw [← ex] at hst
        obtain ⟨x, hx⟩ := hide cur[j]
        rw [hx.out] at c0 c1 hst
        have Hst := Lib.hid hst
        obtain ⟨V, hV⟩ := hide (wr.alloc (.cells #[str x.nam, str x.dat] 28))
        obtain ⟨C, hC⟩ := hide wr.heap.size
        have hcV : V.heap[C]? = some (.cells #[str x.nam, str x.dat] 28 (0, 0)) := by rw [← hV.out, ← hC.out]; exact hp_at _ _ rfl
        have HcV : Hid (∀ w', Below V.heap.size V w' → w'.cell? ⟨C, 0, none⟩ = some (str x.nam) ∧ w'.cell? ⟨C, 1, none⟩ = some (str x.dat)) := fun w' hb' => by
          have h9 := (hb'.block C (lt_of_block hcV)).trans hcV
          exact ⟨cell_n h9 0 rfl, cell_n h9 1 rfl⟩
        obtain ⟨d0, d1⟩ := HcV.out V (Below.refl _ _)
        have HoV : Hid (V.ownsRow S 28 2 (.slice (some ⟨g, 0, none⟩) n cap) n (cur.flatMap rowF)) := by show World.ownsRow _ _ _ _ _ _ _; rw [← hV.out]; exact ho.out.alloc _
        have HbV : Hid (Below S w V) := by show Below _ _ _; rw [← hV.out]; exact hb.out.alloc HSr.out _
        have HSV : Hid (S ≤ V.heap.size) := by show _ ≤ _; rw [← hV.out]; simp; exact Nat.le_trans HSr.out (Nat.le_succ _)
        have KC2 := Lib.hid (KC.out x V HbV.out)
        clear hcV ex hst
        go_upto_region 8 with fail
        rw [hV.out, hC.out]
        cases hq : p x
        · rw [hq] at KC2
          have HK2 : Hid ((cur.set kk x).take (kk + 1) = (l.take (j + 1)).filter (fun f => !(p f))) := by
            show _ = _
            rw [Hst.out, hq, ← hct.out, List.take_add_one, List.getElem?_set_self hkc, List.take_set_of_le (Nat.le_refl _)]
            rfl
          have HC2 : Hid (∀ i, j + 1 ≤ i → (cur.set kk x)[i]? = l[i]?) := fun i hi => by
            rw [List.getElem?_set_ne (by omega)]
            exact hcu.out i (by omega)
          have HL2 : Hid ((cur.set kk x).length = n) := by show _ = _; rw [List.length_set]; exact hcl.out
          go_wp2_with fail
          refine KC2.out.mono ?_
          rintro e w5 ⟨rfl, hb5⟩
          have Ho5 := Lib.hid (own_below HoV.out hb5)
          have Hb5 : Hid (Below S w w5) := HbV.out.trans (hb5.mono HSV.out)
          obtain ⟨d2, d3⟩ := HcV.out _ hb5
          obtain ⟨u0, u1⟩ := ownF_two Ho5.out hkc
          have f0 := own_free Ho5.out (kk * 2)
          have f1 := own_free Ho5.out (kk * 2 + 1)
          obtain ⟨z, hz⟩ := hide cur[kk]
          rw [hz.out] at u0 u1
          have HoS := Lib.hid (ownF_set2 Ho5.out hkc x)
          have HbS : Hid (Below S w ((w5.setCell ⟨g, kk * 2, none⟩ (str x.nam)).setCell ⟨g, kk * 2 + 1, none⟩ (str x.dat))) := (Hb5.out.setCell (p := ⟨g, kk * 2, none⟩) HSg.out _).setCell (p := ⟨g, kk * 2 + 1, none⟩) HSg.out _
          have hi3 : kk < n := by omega
          clear hb5 d0 d1 c0 c1 hq
          go_wp2_with fail
          go_roundw
          case rel => exact ⟨kk + 1, j + 1, cur.set kk x, by go_num, by go_num, by omega, by omega, HL2, HoS, HbS, HC2, HK2⟩
          case measure => simp [intOf]; omega
        · rw [hq] at KC2
          have HK2 : Hid (cur.take kk = (l.take (j + 1)).filter (fun f => !(p f))) := by
            show _ = _
            rw [Hst.out, hq, hct.out]
            simp
          have HC2 : Hid (∀ i, j + 1 ≤ i → cur[i]? = l[i]?) := fun i hi => hcu.out i (by omega)
          go_wp2_with fail
          refine KC2.out.mono ?_
          rintro e w5 ⟨rfl, hb5⟩
          have Ho5 := Lib.hid (own_below HoV.out hb5)
          have Hb5 : Hid (Below S w w5) := HbV.out.trans (hb5.mono HSV.out)
          clear hb5 hq
          go_wp2_with fail
          go_roundw
          case rel => exact ⟨kk, j + 1, cur, rfl, by go_num, by omega, by omega, hcl, Ho5, Hb5, HC2, HK2⟩
          case measure => simp [intOf]; omega
      · obtain rfl : j = n := by omega
        have HK2 : Hid (cur.take kk = l.filter (fun f => !(p f))) := by show _ = _; rw [hct.out, Hl.out, List.take_length]
        obtain ⟨w3, hcr, ho3, hb3⟩ := own_clear (P := Try.prog) (t := 23) ho.out Try.underlying23 zero_fil rfl (by intro u hu; simp [Value.cells] at hu; subst hu; rfl) hkk HSr.out (cap - kk)
        have HkL : Hid ((l.filter (fun f => !(p f))).length = kk) := by
          show _ = _
          rw [← HK2.out, List.length_take, hcl.out]
          omega
        have Ho3 : Hid (OwnF S w3 (.slice (some ⟨g, 0, none⟩) kk cap) (l.filter (fun f => !(p f)))) := by
          show w3.ownsRow _ _ _ _ _ _
          rw [HkL.out, ← HK2.out, ← flatF_take2]
          exact ho3
        have Hb3 : Hid (Below S w w3) := hb.out.trans hb3
        have hck2 : ¬ cap = kk := by omega
        have q3 : (kk : Int) ≤ (j : Int) := by omega
        have q4 : (kk : Int) ≤ (cap : Int) := by omega
        have q5 : kk ≤ cap := by omega
        clear ho3 hb3
        go_wp2_with fail
        rw [← HP.out]
        exact ⟨_, rfl, Ho3.out, Hb3.out⟩
  · have hkl : k = l.length := by have := Hk.out.le; have := Hl.out; omega
    have hpl : placeI l k = -1 := by unfold placeI; rw [if_neg (by omega)]
    rw [hpl]
    have hfil : l.filter (fun f => !(p f)) = l := by
      have := Hk.out.head
      rw [hkl, List.take_length] at this
      exact this
    have Hfil := Lib.hid hfil
    clear hpl hfil
    go_wp2_with fail
    rw [← HP.out]
    refine ⟨_, rfl, ?_, Hb1.out⟩
    rw [Hfil.out]
    have := Ho1.out
    rw [Hl.out] at this ⊢
    exact this
end Go.Proofs.Ytlknkhmhdmpdkaa
