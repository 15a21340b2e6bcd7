/-
  What files say, read by the program (package wal): Open.
-/
import Derived.Test.YtjlhlmnoomiblaaZ36
import Derived.Test.YtjlhlmnoomiblaaZ40
namespace Go.Proofs.Ytjlhlmnoomiblaa
open Go.RowKit Wm Mm Lg Fl
set_option linter.unusedVariables false
set_option linter.unusedSimpArgs false

def okTo (l : List FileP) (k : Nat) : Prop := ∀ i (h : i < l.length), i < k → (l[i].nam = nLog ∨ l[i].nam = nNew) ∧ ∀ j (hj : j < i), (l[j]'(by omega)).nam ≠ l[i].nam
theorem okTo.all {l : List FileP} (h : okTo l l.length) : okF l = true := decide_eq_true (fun k hk => h k hk hk)
theorem okTo.two {l : List FileP} {k : Nat} (h : okTo l k) (hk : k ≤ l.length) : k ≤ 2 := by
  rcases Nat.lt_or_ge 2 k with h2 | h2
  · have a0 := h 0 (by omega) (by omega)
    have a1 := h 1 (by omega) (by omega)
    have a2 := h 2 (by omega) (by omega)
    have n1 := a1.2 0 (by omega)
    have n2 := a2.2 0 (by omega)
    have n3 := a2.2 1 (by omega)
    rcases a0.1 with x | x <;> rcases a1.1 with y | y <;> rcases a2.1 with z | z <;> simp_all
  · exact h2
theorem okTo.no {l : List FileP} {k : Nat} (hk : k < l.length) (h : ¬ ((l[k].nam = nLog ∨ l[k].nam = nNew) ∧ ∀ j (hj : j < k), (l[j]'(by omega)).nam ≠ l[k].nam)) : okF l = false := decide_eq_false (fun hh => h (hh k hk))
theorem okTo.next {l : List FileP} {k : Nat} (h : okTo l k) (hk : k < l.length) (h1 : (l[k].nam = nLog ∨ l[k].nam = nNew) ∧ ∀ j (hj : j < k), (l[j]'(by omega)).nam ≠ l[k].nam) : okTo l (k + 1) := by
  intro i hi hik
  rcases Nat.lt_or_ge i k with h2 | h2
  · exact h i hi h2
  · have : i = k := by omega
    subst this
    exact h1
theorem newA_len : ∀ l : List FileP, (newA l).length ≤ l.length
  | [] => by simp [newA]
  | a :: r => by
    have := newA_len r
    unfold newA at this ⊢
    rw [List.flatMap_cons, List.length_append, List.length_cons]
    have h1 : (if a.nam = nLog then ([] : List ActP) else [⟨7, nNew, [], [], 0⟩]).length ≤ 1 := by split <;> simp
    omega
theorem take_oneF (l : List FileP) {k : Nat} (h : k < l.length) : l.take (k + 1) = l.take k ++ [l[k]] := by rw [List.take_add_one, List.getElem?_eq_getElem h]; rfl
theorem logD_snoc (l : List FileP) (f : FileP) : logD (l ++ [f]) = if f.nam = nLog then f.dat else logD l := by simp [logD]
theorem newA_snoc (l : List FileP) (f : FileP) : newA (l ++ [f]) = newA l ++ if f.nam = nLog then [] else [⟨7, nNew, [], [], 0⟩] := by simp [newA]
theorem ConfG.nil (F : Nat → Prop) (w : World) : ConfG F w (.slice none 0 0) (.slice none 0 0) (.slice none 0 0) noC := ⟨⟨none, 0, rfl, fun h => absurd rfl h, Nat.zero_le _⟩, ⟨none, 0, rfl, fun h => absurd rfl h, Nat.zero_le _⟩, ⟨none, 0, rfl, fun h => absurd rfl h, Nat.zero_le _⟩⟩
theorem logD_le {n : Nat} : ∀ (l : List FileP) (acc : List UInt8), acc.length ≤ n → (∀ f ∈ l, f.dat.length ≤ n) → (l.foldl (fun s f => if f.nam = nLog then f.dat else s) acc).length ≤ n
  | [], acc, h, _ => h
  | a :: r, acc, h, hh => by
    rw [List.foldl_cons]
    refine logD_le r _ ?_ (fun f hf => hh f (List.mem_cons_of_mem _ hf))
    split
    · exact hh a (List.mem_cons_self ..)
    · exact h
theorem any_dup {l : List FileP} {k : Nat} (hk : k < l.length) (f : FileP) (hf : l[k] = f) : ((l.take k).any (pNam f) = true → ¬ ∀ j (hj : j < k), (l[j]'(by omega)).nam ≠ l[k].nam) ∧ ((l.take k).any (pNam f) = false → ∀ j (hj : j < k), (l[j]'(by omega)).nam ≠ l[k].nam) := by
  subst hf
  constructor
  · intro h hh
    obtain ⟨x, hx, hp⟩ := List.any_eq_true.1 h
    obtain ⟨i, hi, rfl⟩ := List.getElem_of_mem hx
    rw [List.length_take] at hi
    rw [List.getElem_take] at hp
    exact hh i (by omega) (by simpa [pNam] using hp)
  · intro h j hj e
    rw [List.any_eq_false] at h
    have := h (l[j]'(by omega)) (List.mem_take_iff_getElem.2 ⟨j, by omega, rfl⟩)
    exact this (by simpa [pNam] using e)
set_option maxHeartbeats 8000000 in
set_option maxRecDepth 100000 in
theorem open_walN (v : Value) (l : List FileP) (a b d : Value) (c : Conf) (F : Nat → Prop) (w : World) (h : Fls F w v l) (hc : Config3 w a b d c) (hd : ∀ f ∈ l, f.dat.length ≤ 4611686018427387904) (hn : l.length ≤ 4398046511104) :
    Calls Try.prog 9 #[v, .agg #[a, b, d]] w (OpenPostN w (openP l c)) := by
  obtain ⟨post, HP⟩ := hide (OpenPostN w (openP l c))
  rw [HP.out]
  obtain ⟨ao, cap, rfl, hcap, hmax⟩ := h.slice
  obtain ⟨ao1, cp1, rfl, _⟩ := len_of_Ints hc.v
  obtain ⟨ao2, cp2, rfl, _⟩ := len_of_Ints hc.n
  obtain ⟨ao3, cp3, rfl, _⟩ := len_of_Ints hc.l
  obtain ⟨n1, hn1⟩ := hide c.v.length
  obtain ⟨n2, hn2⟩ := hide c.n.length
  obtain ⟨n3, hn3⟩ := hide c.l.length
  rw [hn1.out, hn2.out, hn3.out] at hc ⊢
  obtain ⟨W, hW⟩ := hide (((w.alloc (.cells #[.slice ao1 n1 cp1, .slice ao2 n2 cp2, .slice ao3 n3 cp3] 24)).alloc (.cells #[.int .i64 0, .int .i64 0, .int .i64 0, .int .i64 0, .int .i64 0, .slice none 0 0, .int .i64 0, .int .i64 0, .slice none 0 0, .slice none 0 0, .slice none 0 0, .string ⟨#[]⟩, .slice none 0 0, .slice none 0 0, .slice none 0 0] 33)).alloc (.cells #[.int .i64 0, .int .i64 0, .int .i64 0, .int .i64 0, .int .i64 0, .slice none 0 0, .int .i64 0, .int .i64 0, .slice none 0 0, .slice none 0 0, .slice none 0 0, .string ⟨#[]⟩, .slice ao1 n1 cp1, .slice ao2 n2 cp2, .slice ao3 n3 cp3] 33))
  have hz : w.heap.size + 3 = W.heap.size := by rw [← hW.out]; simp
  have hb : Below w.heap.size w W := by rw [← hW.out]; exact (((Below.refl _ _).alloc (Nat.le_refl _) _).alloc (by simp) _).alloc (by simp; omega) _
  obtain ⟨B0, hB0⟩ := hide w.heap.size
  obtain ⟨B, hB⟩ := hide (w.heap.size + 1)
  obtain ⟨P, hP⟩ := hide (w.heap.size + 1 + 1)
  have HB : Hid (W.heap[B]? = some (.cells zeroKept.toArray 33 (0, 0))) := by show _ = _; rw [← hW.out, ← hB.out]; exact (hp_past _ _ (by simp)).trans (hp_at _ _ (by simp))
  have HPk : Hid (W.heap[P]? = some (.cells (cellsK (zeroK c) (.slice none 0 0) (.slice none 0 0) (.slice none 0 0) (.slice none 0 0) (.slice ao1 n1 cp1) (.slice ao2 n2 cp2) (.slice ao3 n3 cp3)) 33 (0, 0))) := by show _ = _; rw [← hW.out, ← hP.out]; exact hp_at _ _ (by simp)
  have HbW := Lib.hid hb
  have Hsz : Hid (w.heap.size + 3 = W.heap.size ∧ B = w.heap.size + 1 ∧ P = w.heap.size + 2) := ⟨hz, hB.out.symm, hP.out.symm⟩
  have HC := Lib.hid hc
  have HF : Hid (∀ w', Below w.heap.size w w' → Fls F w' (.slice ao l.length cap) l) := fun w' hb => h.frame (Plain.good _) (Agree.below hb)
  have HD := Lib.hid hd
  have HNo : Hid (okF l = false → ∀ w1, Below w.heap.size w w1 → post (.returned (.tuple #[.agg zeroKept.toArray, .slice none 0 0, .int .i64 16])) (setAll w1 B zeroKept)) := by
    show _ → ∀ w1, _ → _
    intro hf w1 hb1
    rw [← HP.out, openP, if_pos hf]
    exact ⟨setAll_below hb1 (by have := Hsz.out; omega) _, rfl⟩
  have HGo : Hid (okF l = true → ∀ e w', OpenPostN w (match goP (zeroK c) (logD l) with | none => none | some (k', rest) => if confOk k'.cf = true then some (fixK k', newA l ++ (cutOff (logD l) rest ++ fixA k')) else none) e w' → post e w') := by
    show _ → ∀ e w', _ → _
    intro hf e w' hh
    rw [← HP.out, openP, if_neg (by rw [hf]; simp)]
    exact hh
  -- what stands at the loop's end
  have HEnd : Hid (∀ wr (aa : Option Addr) (na ca : Nat), Below W.heap.size W wr → wr.ownsRow W.heap.size 45 5 (.slice aa na ca) na ((newA l).flatMap rowA) →
      Here (fun g => g ≠ P ∧ g ≠ B ∧ (Value.slice aa na ca).ownBlock ≠ some g) w W.heap.size wr.heap.size B P aa na ca (newA l) wr (zeroK c) (.slice none 0 0) (.slice none 0 0) (.slice none 0 0) (.slice none 0 0) (.slice ao1 n1 cp1) (.slice ao2 n2 cp2) (.slice ao3 n3 cp3)) := by
    show ∀ wr (aa : Option Addr) (na ca : Nat), _ → _ → _
    intro wr aa na ca hbr ho
    have hs := Hsz.out
    have hsz := hbr.size
    refine ⟨⟨(hbr.block P (lt_of_block HPk.out)).trans HPk.out, World.ownsRow_nil _ _ _ _, ?_, ?_, by omega, Nat.le_refl _, fun hh => hh.1 rfl, fun g hg => ⟨by omega, by omega, fun e => by have := (ho.lt g e).2; omega⟩⟩, (hbr.block B (lt_of_block HB.out)).trans HB.out, ho, HbW.out.trans (hbr.mono HbW.out.size), InvK.zero c, hbr.size⟩
    · exact ConfG.nil _ _
    · exact (ConfG.of HC.out (fun g hg => ⟨by omega, by omega, by omega, fun e => by have := (ho.lt g e).1; omega⟩)).frame (Agree.below (HbW.out.trans (hbr.mono HbW.out.size)))
  clear h hc hd hb hz hmax
  go_enter Try.func9, Try.ntmps9
  go_upto_region 2 with fail
  rw [hW.out, hP.out, hB.out, hB0.out]
  go_wp2_with fail
  go_loopw [8, 9, 23] (fun s8 s9 s23 wr => ∃ (k : Nat) (sv : List UInt8) (aa : Option Addr) (na ca : Nat), s23 = .int .i64 k ∧ s9 = str sv ∧ s8 = .slice aa na ca ∧ k ≤ l.length ∧ Hid (sv = logD (l.take k)) ∧ Hid (wr.ownsRow W.heap.size 45 5 (.slice aa na ca) na ((newA (l.take k)).flatMap rowA)) ∧ Hid (na = (newA (l.take k)).length) ∧ Hid (okTo l k) ∧ Hid (Below W.heap.size W wr)) (fun _ _ s23 _ => l.length - (intOf s23).toNat)
  case atStart => exact ⟨0, [], none, 0, 0, rfl, rfl, rfl, Nat.zero_le _, rfl, World.ownsRow_nil _ _ _ _, rfl, fun i _ h => absurd h (Nat.not_lt_zero _), Below.refl _ _⟩
  case round =>
    obtain ⟨k, sv, aa, na, ca, rfl, rfl, rfl, hk, hsv, ho, hna, hok, hbr⟩ := hrel
    by_cases hlt : k < l.length
    · obtain ⟨fb, fo, rfl, m0, m1⟩ := Sl.twoF (HF.out _ (HbW.out.trans (hbr.out.mono HbW.out.size))) hlt
      have htk := (HF.out wr (HbW.out.trans (hbr.out.mono HbW.out.size))).take (k := k) (by omega)
      have HNx : Hid (∀ f, l[k] = f → okF l = false ∨ (okTo l (k + 1) ∧ (f.nam = nLog ∨ f.nam = nNew))) := by
        show ∀ f, _ → _
        rintro f rfl
        by_cases hh : (l[k].nam = nLog ∨ l[k].nam = nNew) ∧ ∀ j (hj : j < k), (l[j]'(by omega)).nam ≠ l[k].nam
        · exact Or.inr ⟨hok.out.next hlt hh, hh.1⟩
        · exact Or.inl (okTo.no hlt hh)
      have HNo1 : Hid (∀ f, l[k] = f → ¬ (f.nam = nLog ∨ f.nam = nNew) → okF l = false) := by
        show ∀ f, _ → _ → _
        rintro f rfl h
        exact okTo.no hlt (fun hh => h hh.1)
      have HDup : Hid (∀ f, l[k] = f → ((l.take k).any (pNam f) = true → okF l = false) ∧ ((l.take k).any (pNam f) = false → (f.nam = nLog ∨ f.nam = nNew) → okTo l (k + 1))) := by
        show ∀ f, _ → _
        intro f hf
        have h1 := any_dup hlt f hf
        refine ⟨fun h => okTo.no hlt (fun hh => h1.1 h hh.2), fun h hh => hok.out.next hlt ⟨by rw [hf]; exact hh, h1.2 h⟩⟩
      have hsn : ∀ f, l[k] = f → logD (l.take (k + 1)) = (if f.nam = nLog then f.dat else sv) ∧ newA (l.take (k + 1)) = newA (l.take k) ++ (if f.nam = nLog then [] else [⟨7, nNew, [], [], 0⟩]) := by
        rintro f rfl
        rw [take_oneF l hlt, logD_snoc, newA_snoc, hsv.out]
        exact ⟨rfl, rfl⟩
      have Hsn := Lib.hid hsn
      have hk2 := hok.out.two hk
      have hnl := newA_len (l.take k)
      have hna8 : na ≤ 8 := by rw [hna.out]; rw [List.length_take] at hnl; omega
      obtain ⟨f, hf⟩ := hide l[k]
      rw [hf.out] at m0 m1
      obtain ⟨fnm, fdt⟩ := f
      dsimp only at m0 m1
      obtain ⟨V, hV⟩ := hide (wr.alloc (.cells #[str fnm, str fdt] 53))
      obtain ⟨C, hC⟩ := hide wr.heap.size
      have hV0 : V.heap[C]? = some (.cells (rowF ⟨fnm, fdt⟩).toArray 53 (0, 0)) := by rw [← hV.out, ← hC.out]; exact hp_at _ _ rfl
      have hbV : Below W.heap.size W V := by rw [← hV.out]; exact hbr.out.alloc hbr.out.size _
      have HbV := Lib.hid hbV
      have HV0 := Lib.hid hV0
      have hoV : V.ownsRow W.heap.size 45 5 (.slice aa na ca) na ((newA (l.take k)).flatMap rowA) := by rw [← hV.out]; exact ho.out.alloc _
      have HoV := Lib.hid hoV
      have HtkV : Hid (Fls F V (.slice (some ⟨fb, fo, none⟩) k cap) (l.take k)) := by show Fls _ _ _ _; rw [← hV.out]; exact htk.frame (Plain.good _) (Agree.alloc _ _ _)
      have e0 := cell_n hV0 0 (v := str fnm) rfl
      have e1 := cell_n hV0 1 (v := str fdt) rfl
      have HWV : Hid (Below w.heap.size w V) := HbW.out.trans (hbV.mono HbW.out.size)
      have HBV : Hid (V.heap[B]? = some (.cells zeroKept.toArray 33 (0, 0))) := (hbV.block B (lt_of_block HB.out)).trans HB.out
      have hkc : k ≤ cap := by omega
      have hkc2 : (k : Int) ≤ (cap : Int) := by omega
      have Hk := Lib.hid hk
      clear hV0 hbV hoV htk hsn hnl hk2
      go_upto_region 7 with fail
      rw [hV.out, hC.out]
      clear m0 m1
      by_cases hbad : fnm = nLog ∨ fnm = nNew
      · have HK := Lib.hid (contains_op ⟨fnm, fdt⟩ C _ (l.take k) F V HtkV.out HV0.out)
        have hdup := HDup.out _ hf.out
        obtain ⟨q, hq⟩ := hide ((l.take k).any (pNam ⟨fnm, fdt⟩))
        rw [hq.out] at HK hdup
        have Hdup := Lib.hid hdup
        have Hbad := Lib.hid hbad
        have hsn2 := Hsn.out _ hf.out
        dsimp only at hsn2
        have HT : Hid ((fnm == nLog) = true ∨ ((fnm == nLog) = false ∧ (fnm == nNew) = true)) := by
          rcases hbad with h | h
          · exact Or.inl (by rw [h]; rfl)
          · exact Or.inr ⟨by rw [h]; rfl, by rw [h]; rfl⟩
        clear hbad hdup
        rcases HT.out with t1 | ⟨t1, t2⟩
        · have hlog : fnm = nLog := eq_of_beq t1
          rw [if_pos hlog, if_pos hlog, List.append_nil] at hsn2
          have Hsn2 := Lib.hid hsn2
          clear hsn2 hlog
          have t3 : (fnm != nLog) = false := by rw [bne, t1]; rfl
          go_wp2_with fail
          refine HK.out.mono ?_
          rintro e w4 ⟨rfl, hb4⟩
          have H4 : Hid (w4.heap[B]? = some (.cells zeroKept.toArray 33 (0, 0))) := (hb4.block B (lt_of_block HBV.out)).trans HBV.out
          have Hw4 : Hid (Below w.heap.size w w4) := HWV.out.trans (hb4.mono HWV.out.size)
          have hC4 := (hb4.block C (lt_of_block HV0.out)).trans HV0.out
          have f0 := cell_n hC4 0 (v := str fnm) rfl
          have f1 := cell_n hC4 1 (v := str fdt) rfl
          have Ho4 := Lib.hid (own_below HoV.out hb4)
          have Hb4 : Hid (Below W.heap.size W w4) := HbV.out.trans (hb4.mono HbV.out.size)
          clear hb4 hC4
          cases q with
          | true =>
            have hno := Hdup.out.1 rfl
            clear f0 f1
            have h9 := setAll_at H4.out zeroKept rfl
            have H9 := Lib.hid h9
            have Hth : Hid (w4.there B 0 15) := there_ofW H4.out
            have Hpost := Lib.hid (HNo.out hno w4 Hw4.out)
            clear h9
            go_upto_region 8 with fail
            refine wp_region_lit ?_
            iterate 3 go_step
            refine wpList_store_mid rfl 33 (.tmp 4) (.tmp 43) rfl B 0 zeroKept.toArray rfl rfl Hth.out size_kept (by simp [Value.oneCell']) ?_
            rw [setCells_eqW]
            show wpList _ _ _ _ _ (setAll w4 B zeroKept)
            generalize setAll w4 B zeroKept = W9 at H9 Hpost ⊢
            go_wp2_with fail
            refine bodyPost_ret (results_three rfl _ W9 B 33 zeroKept.toArray (0, 0) _ rfl H9.out Try.underlying33 rfl size_kept) rfl ?_
            exact Hpost.out
          | false =>
            have Hok2 := Lib.hid (Hdup.out.2 rfl Hbad.out)
            go_wp2_with fail
            go_roundw
            case rel => exact ⟨k + 1, fdt, aa, na, ca, by go_num, rfl, rfl, by omega, Hsn2.out.1.symm, by show World.ownsRow _ _ _ _ _ _ _; rw [Hsn2.out.2]; exact Ho4.out, by show _ = _; rw [Hsn2.out.2]; exact hna.out, Hok2, Hb4⟩
            case measure => simp [intOf]; omega
        · have hlog : ¬ fnm = nLog := beq_eq_false_iff_ne.1 t1
          rw [if_neg hlog, if_neg hlog] at hsn2
          have Hsn2 := Lib.hid hsn2
          clear hsn2 hlog
          have t3 : (fnm != nLog) = true := by rw [bne, t1]; rfl
          have t4 : (fnm != nNew) = false := by rw [bne, t2]; rfl
          go_wp2_with fail
          refine HK.out.mono ?_
          rintro e w4 ⟨rfl, hb4⟩
          have H4 : Hid (w4.heap[B]? = some (.cells zeroKept.toArray 33 (0, 0))) := (hb4.block B (lt_of_block HBV.out)).trans HBV.out
          have Hw4 : Hid (Below w.heap.size w w4) := HWV.out.trans (hb4.mono HWV.out.size)
          have hC4 := (hb4.block C (lt_of_block HV0.out)).trans HV0.out
          have f0 := cell_n hC4 0 (v := str fnm) rfl
          have f1 := cell_n hC4 1 (v := str fdt) rfl
          have Ho4 := Lib.hid (own_below HoV.out hb4)
          have Hb4 : Hid (Below W.heap.size W w4) := HbV.out.trans (hb4.mono HbV.out.size)
          clear hb4 hC4
          cases q with
          | true =>
            have hno := Hdup.out.1 rfl
            clear f0 f1
            have h9 := setAll_at H4.out zeroKept rfl
            have H9 := Lib.hid h9
            have Hth : Hid (w4.there B 0 15) := there_ofW H4.out
            have Hpost := Lib.hid (HNo.out hno w4 Hw4.out)
            clear h9
            go_upto_region 8 with fail
            refine wp_region_lit ?_
            iterate 3 go_step
            refine wpList_store_mid rfl 33 (.tmp 4) (.tmp 43) rfl B 0 zeroKept.toArray rfl rfl Hth.out size_kept (by simp [Value.oneCell']) ?_
            rw [setCells_eqW]
            show wpList _ _ _ _ _ (setAll w4 B zeroKept)
            generalize setAll w4 B zeroKept = W9 at H9 Hpost ⊢
            go_wp2_with fail
            refine bodyPost_ret (results_three rfl _ W9 B 33 zeroKept.toArray (0, 0) _ rfl H9.out Try.underlying33 rfl size_kept) rfl ?_
            exact Hpost.out
          | false =>
            have Hok2 := Lib.hid (Hdup.out.2 rfl Hbad.out)
            have HsA : Hid (Src Try.prog 5 42 (.slice (some ⟨w4.heap.size, 0, none⟩) 1 1) 1 (([⟨7, nNew, [], [], 0⟩] : List ActP).flatMap rowA) (w4.alloc (.cells (([⟨7, nNew, [], [], 0⟩] : List ActP).flatMap rowA).toArray 45))) := src_new (w := w4) Try.underlying42 _ 1 rfl (acts_one [⟨7, nNew, [], [], 0⟩])
            have HoA : Hid ((w4.alloc (.cells (([⟨7, nNew, [], [], 0⟩] : List ActP).flatMap rowA).toArray 45)).ownsRow W.heap.size 45 5 (.slice aa na ca) na ((newA (l.take k)).flatMap rowA)) := Ho4.out.alloc _
            have hbA : Below W.heap.size W (w4.alloc (.cells (([⟨7, nNew, [], [], 0⟩] : List ActP).flatMap rowA).toArray 45)) := Hb4.out.alloc Hb4.out.size _
            have HbA := Lib.hid hbA
            have HSz := Lib.hid hbA.size
            clear hbA
            go_wp2_with (at_builtin; refine wpList_append_at rfl _ _ 42 42 rfl W.heap.size 45 _ 5 64 Try.underlying42 info_act rfl _ _ _ rfl HoA.out _ 1 _ rfl HsA.out (by unfold maxLen; omega) (by omega) HSz.out ?_)
            intro v9 w9 ho9 hg9 hb9
            obtain ⟨a9, k9, rfl⟩ := owns_slice ho9
            have Hb9 := Lib.hid (below_own HoA.out hg9 (Nat.le_refl _) HbA.out.size)
            have Hb9' : Hid (Below W.heap.size W w9) := HbA.out.trans Hb9.out
            have Ho9 : Hid (w9.ownsRow W.heap.size 45 5 (.slice a9 (na + 1) k9) (na + 1) ((newA (l.take (k + 1))).flatMap rowA)) := by
              show World.ownsRow _ _ _ _ _ _ _
              rw [Hsn2.out.2, List.flatMap_append]
              exact ho9
            have Hna9 : Hid (na + 1 = (newA (l.take (k + 1))).length) := by show _ = _; rw [Hsn2.out.2, List.length_append, hna.out]; rfl
            clear ho9 hg9 hb9
            go_wp2_with fail
            go_roundw
            case rel => exact ⟨k + 1, sv, a9, na + 1, k9, by go_num, rfl, rfl, by omega, Hsn2.out.1.symm, Ho9, Hna9, Hok2, Hb9'⟩
            case measure => simp [intOf]; omega
      · have hno := HNo1.out _ hf.out hbad
        have t1 : (fnm == nLog) = false := beq_eq_false_iff_ne.2 (fun e => hbad (Or.inl e))
        have t2 : (fnm == nNew) = false := beq_eq_false_iff_ne.2 (fun e => hbad (Or.inr e))
        have t1' : (fnm != nLog) = true := bne_iff_ne.2 (fun e => hbad (Or.inl e))
        have t2' : (fnm != nNew) = true := bne_iff_ne.2 (fun e => hbad (Or.inr e))
        clear hbad
        have h9 := setAll_at HBV.out zeroKept rfl
        have H9 := Lib.hid h9
        have Hth : Hid (V.there B 0 15) := there_ofW HBV.out
        have Hpost := Lib.hid (HNo.out hno V HWV.out)
        clear h9
        go_upto_region 8 with fail
        refine wp_region_lit ?_
        iterate 3 go_step
        refine wpList_store_mid rfl 33 (.tmp 4) (.tmp 43) rfl B 0 zeroKept.toArray rfl rfl Hth.out size_kept (by simp [Value.oneCell']) ?_
        rw [setCells_eqW]
        show wpList _ _ _ _ _ (setAll V B zeroKept)
        generalize setAll V B zeroKept = W9 at H9 Hpost ⊢
        go_wp2_with fail
        refine bodyPost_ret (results_three rfl _ W9 B 33 zeroKept.toArray (0, 0) _ rfl H9.out Try.underlying33 rfl size_kept) rfl ?_
        exact Hpost.out
    · obtain rfl : k = l.length := by omega
      rw [List.take_length] at hsv ho hna
      have hH := Lib.hid (HEnd.out wr aa na ca hbr.out ho.out)
      have g1 : Hid (B ≠ P ∧ B < wr.heap.size ∧ w.heap.size ≤ B ∧ ¬ (fun g => g ≠ P ∧ g ≠ B ∧ (Value.slice aa na ca).ownBlock ≠ some g) B) := by have h1 := Hsz.out; have h2 := hbr.out.size; exact ⟨by omega, by omega, by omega, fun hh => hh.2.1 rfl⟩
      have g2 : Hid (w.heap.size ≤ P) := by have h1 := Hsz.out; show _ ≤ _; omega
      have g3 : Hid (na = (newA l).length ∧ na ≤ 4) := ⟨hna.out, by have h1 := hok.out.two (Nat.le_refl _); have h2 := newA_len l; have h3 := hna.out; omega⟩
      have g4 : Hid (B < W.heap.size ∧ P < W.heap.size) := by have h1 := Hsz.out; exact ⟨by omega, by omega⟩
      have g5 : Hid (∀ g, (Value.slice aa na ca).ownBlock = some g → ¬ (fun g => g ≠ P ∧ g ≠ B ∧ (Value.slice aa na ca).ownBlock ≠ some g) g ∧ g < wr.heap.size) := fun g hg => ⟨fun hh => hh.2.2 hg, (ho.out.lt g hg).2⟩
      have g6 : sv.length ≤ 4611686018427387904 := by rw [hsv.out]; exact logD_le l [] (Nat.zero_le _) HD.out
      have g7 := Lib.hid (HGo.out hok.out.all)
      have g8 : Hid (∀ e w', OpenPostN w (match goP (zeroK c) sv with | none => none | some (k', rest) => if confOk k'.cf = true then some (fixK k', newA l ++ (cutOff sv rest ++ fixA k')) else none) e w' → post e w') := by show ∀ e w', _ → _; rw [hsv.out]; exact g7.out
      clear hlt hsv
      iterate 20 (first | done | exact open_loop _ w wr post W.heap.size wr.heap.size B P (zeroK c) _ _ _ _ _ _ _ aa na ca (newA l) sv hH g1 g2 g3 g4 g5 g6 g8 | go_step)
theorem open_wal (v : Value) (l : List FileP) (a b d : Value) (c : Conf) (F : Nat → Prop) (w : World) (h : Fls F w v l) (hc : Config3 w a b d c) (hd : ∀ f ∈ l, f.dat.length ≤ 4611686018427387904) (hn : l.length ≤ 4398046511104) :
    Calls Try.prog 9 #[v, .agg #[a, b, d]] w (OpenPost w (openP l c)) := (open_walN v l a b d c F w h hc hd hn).mono (fun _ _ h => h.open)
end Go.Proofs.Ytjlhlmnoomiblaa
