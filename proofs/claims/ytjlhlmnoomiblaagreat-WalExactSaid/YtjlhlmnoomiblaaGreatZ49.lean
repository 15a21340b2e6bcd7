/-
  What files say, read by the document: Open.
-/
import Derived.Test.YtjlhlmnoomiblaaGreatZ43
import Derived.Test.YtjlhlmnoomiblaaGreatZ48
namespace Go.Proofs.YtjlhlmnoomiblaaGreat
open Go.RowKit Wm Mm Lg Fl
set_option linter.unusedVariables false
set_option linter.unusedSimpArgs false

set_option maxHeartbeats 8000000 in
set_option maxRecDepth 100000 in
theorem ref_open (v : Value) (l : List FileP) (a b d : Value) (c : Conf) (F : Nat → Prop) (w : World) (h : Fls F w v l) (hc : Config3 w a b d c) (hd : ∀ f ∈ l, f.dat.length ≤ 4611686018427387904) (hn : l.length ≤ 4398046511104) :
    Calls Tryz.prog 8 #[v, .agg #[a, b, d]] w (OpenPost w (openP l c)) := by
  obtain ⟨post, HP⟩ := hide (OpenPost w (openP l c))
  rw [HP.out]
  obtain ⟨ao, cap, rfl, hcap, hmax⟩ := h.slice
  obtain ⟨ao1, cp1, rfl, _⟩ := len_of_Ints hc.v
  obtain ⟨ao2, cp2, rfl, _⟩ := len_of_Ints hc.n
  obtain ⟨ao3, cp3, rfl, _⟩ := len_of_Ints hc.l
  obtain ⟨n1, hn1⟩ := hide c.v.length
  obtain ⟨n2, hn2⟩ := hide c.n.length
  obtain ⟨n3, hn3⟩ := hide c.l.length
  rw [hn1.out, hn2.out, hn3.out] at hc ⊢
  obtain ⟨W, hW⟩ := hide (((w.alloc (.cells #[.slice ao1 n1 cp1, .slice ao2 n2 cp2, .slice ao3 n3 cp3] 27)).alloc (.cells #[.int .i64 0, .int .i64 0, .int .i64 0, .int .i64 0, .int .i64 0, .slice none 0 0, .int .i64 0, .int .i64 0, .slice none 0 0, .slice none 0 0, .slice none 0 0, .string ⟨#[]⟩, .slice none 0 0, .slice none 0 0, .slice none 0 0] 43)).alloc (.cells #[.int .i64 0, .int .i64 0, .int .i64 0, .int .i64 0, .int .i64 0, .slice none 0 0, .int .i64 0, .int .i64 0, .slice none 0 0, .slice none 0 0, .slice none 0 0, .string ⟨#[]⟩, .slice ao1 n1 cp1, .slice ao2 n2 cp2, .slice ao3 n3 cp3] 43))
  have hz : w.heap.size + 3 = W.heap.size := by rw [← hW.out]; simp
  have hb : Below w.heap.size w W := by rw [← hW.out]; exact (((Below.refl _ _).alloc (Nat.le_refl _) _).alloc (by simp) _).alloc (by simp; omega) _
  obtain ⟨B0, hB0⟩ := hide w.heap.size
  obtain ⟨B, hB⟩ := hide (w.heap.size + 1)
  obtain ⟨P, hP⟩ := hide (w.heap.size + 1 + 1)
  have HB : Hid (W.heap[B]? = some (.cells zeroKept.toArray 43 (0, 0))) := by show _ = _; rw [← hW.out, ← hB.out]; exact (hp_past _ _ (by simp)).trans (hp_at _ _ (by simp))
  have HPk : Hid (W.heap[P]? = some (.cells (cellsK (zeroK c) (.slice none 0 0) (.slice none 0 0) (.slice none 0 0) (.slice none 0 0) (.slice ao1 n1 cp1) (.slice ao2 n2 cp2) (.slice ao3 n3 cp3)) 43 (0, 0))) := by show _ = _; rw [← hW.out, ← hP.out]; exact hp_at _ _ (by simp)
  have HbW := Lib.hid hb
  have Hsz : Hid (w.heap.size + 3 = W.heap.size ∧ B = w.heap.size + 1 ∧ P = w.heap.size + 2) := ⟨hz, hB.out.symm, hP.out.symm⟩
  have HC := Lib.hid hc
  have HF : Hid (∀ w', Below w.heap.size w w' → Fls F w' (.slice ao l.length cap) l) := fun w' hb => h.frame (Plain.good _) (Agree.below hb)
  have HD := Lib.hid hd
  have HNo : Hid (okF l = false → ∀ w1, Below w.heap.size w w1 → post (.returned (.tuple #[.agg zeroKept.toArray, .slice none 0 0, .int .i64 16])) (setAll w1 B zeroKept)) := by
    show _ → ∀ w1, _ → _
    intro hf w1 hb1
    rw [← HP.out, openP, if_pos hf]
    exact ⟨setAll_below hb1 (by have := Hsz.out; omega) _, rfl⟩
  have HGo : Hid (okF l = true → ∀ e w', OpenPost w (match goP (zeroK c) (logD l) with | none => none | some (k', rest) => if confOk k'.cf = true then some (fixK k', newA l ++ (cutOff (logD l) rest ++ fixA k')) else none) e w' → post e w') := by
    show _ → ∀ e w', _ → _
    intro hf e w' hh
    rw [← HP.out, openP, if_neg (by rw [hf]; simp)]
    exact hh
  -- what stands at the loop's end
  have HEnd : Hid (∀ wr (aa : Option Addr) (na ca : Nat), Below W.heap.size W wr → wr.ownsRow W.heap.size 38 5 (.slice aa na ca) na ((newA l).flatMap rowA) →
      RHere (fun g => g ≠ P ∧ g ≠ B ∧ (Value.slice aa na ca).ownBlock ≠ some g) wr.heap.size w W.heap.size B P aa na ca (newA l) wr (zeroK c) (.slice none 0 0) (.slice none 0 0) (.slice none 0 0) (.slice none 0 0) (.slice ao1 n1 cp1) (.slice ao2 n2 cp2) (.slice ao3 n3 cp3)) := by
    show ∀ wr (aa : Option Addr) (na ca : Nat), _ → _ → _
    intro wr aa na ca hbr ho
    have hs := Hsz.out
    have hsz := hbr.size
    refine ⟨⟨(hbr.block P (lt_of_block HPk.out)).trans HPk.out, ?_, ConfG.nil _ _, ?_, fun hh => hh.1 rfl⟩, (hbr.block B (lt_of_block HB.out)).trans HB.out, ho, HbW.out.trans (hbr.mono HbW.out.size), InvK.zero c, hbr.size, Nat.le_refl _, fun g hg => ⟨by omega, by omega, fun e => by have := (ho.lt g e).2; omega⟩⟩
    · exact (OwnE.ents (World.ownsRow_nil _ wr.heap.size _ _)).weak (Plain.good _) (fun g h1 h2 => absurd h2 (Nat.not_lt.2 h1))
    · exact (ConfG.of HC.out (fun g hg => ⟨by omega, by omega, fun e => by have := (ho.lt g e).1; omega⟩)).frame (Agree.below (HbW.out.trans (hbr.mono HbW.out.size)))
  clear h hc hd hb hz hmax
  go_enter Tryz.func8, Tryz.ntmps8
  go_upto_region 2 with fail
  rw [hW.out, hP.out, hB.out, hB0.out]
  go_wp2_with fail
  go_loopw [8, 9, 10] (fun s8 s9 s10 wr => ∃ (k : Nat) (sv : List UInt8) (aa : Option Addr) (na ca : Nat), s10 = .int .i64 k ∧ s9 = str sv ∧ s8 = .slice aa na ca ∧ k ≤ l.length ∧ Hid (sv = logD (l.take k)) ∧ Hid (wr.ownsRow W.heap.size 38 5 (.slice aa na ca) na ((newA (l.take k)).flatMap rowA)) ∧ Hid (na = (newA (l.take k)).length) ∧ Hid (okTo l k) ∧ Hid (Below W.heap.size W wr)) (fun _ _ s10 _ => l.length - (intOf s10).toNat)
  case atStart => exact ⟨0, [], none, 0, 0, rfl, rfl, rfl, Nat.zero_le _, rfl, World.ownsRow_nil _ _ _ _, rfl, fun i _ h => absurd h (Nat.not_lt_zero _), Below.refl _ _⟩
  case round =>
    rename_i K1 hK1
    obtain ⟨k, sv, aa, na, ca, rfl, rfl, rfl, hk, hsv, ho, hna, hok, hbr⟩ := hrel
    obtain ⟨V, hV⟩ : ∃ V, V = wr := ⟨_, rfl⟩
    subst hV
    by_cases hlt : k < l.length
    · have hsn : ∀ f, l[k] = f → logD (l.take (k + 1)) = (if f.nam = nLog then f.dat else sv) ∧ newA (l.take (k + 1)) = newA (l.take k) ++ (if f.nam = nLog then [] else [⟨7, nNew, [], [], 0⟩]) := by
        rintro f rfl
        rw [take_oneF l hlt, logD_snoc, newA_snoc, hsv.out]
        exact ⟨rfl, rfl⟩
      have HDup : Hid (∀ j (hj : j < k), (l[j]'(by omega)).nam = l[k].nam → okF l = false) := fun j hj he => okTo.no hlt (fun hh => hh.2 j hj he)
      have HNo1 : Hid (∀ f, l[k] = f → ¬ (f.nam = nLog ∨ f.nam = nNew) → okF l = false) := by
        show ∀ f, _ → _ → _
        rintro f rfl hh
        exact okTo.no hlt (fun h2 => hh h2.1)
      have HNext : Hid (∀ f, l[k] = f → (∀ j (hj : j < k), (l[j]'(by omega)).nam ≠ f.nam) → (f.nam = nLog ∨ f.nam = nNew) → okTo l (k + 1)) := by
        show ∀ f, _ → _ → _ → _
        rintro f rfl h1 h2
        exact hok.out.next hlt ⟨h2, h1⟩
      have Hsn := Lib.hid hsn
      have hk2 := hok.out.two hk
      have hnl := newA_len (l.take k)
      have hna8 : na ≤ 8 := by rw [hna.out]; rw [List.length_take] at hnl; omega
      obtain ⟨f, hf⟩ := hide l[k]
      have Hwr : Hid (Below w.heap.size w V) := HbW.out.trans (hbr.out.mono HbW.out.size)
      have HG : Hid (∀ w1, Below V.heap.size V w1 → ∃ fb fo, ao = some ⟨fb, fo, none⟩ ∧ w1.cell? ⟨fb, fo + k * 2, none⟩ = some (str f.nam) ∧ w1.cell? ⟨fb, fo + k * 2 + 1, none⟩ = some (str f.dat)) := by
        show ∀ w1, _ → _
        intro w1 hb1
        have := Sl.twoF (HF.out w1 (Hwr.out.trans (hb1.mono Hwr.out.size))) hlt
        rw [hf.out] at this
        exact this
      obtain ⟨fnm, fdt⟩ := f
      have hlti : (k : Int) < (l.length : Int) := by omega
      clear hsn hnl hk2
      have hend : Hid (∀ w1, Below V.heap.size V w1 → Below w.heap.size w w1 ∧ Below W.heap.size W w1 ∧ w1.heap[B]? = some (.cells zeroKept.toArray 43 (0, 0)) ∧ w1.ownsRow W.heap.size 38 5 (.slice aa na ca) na ((newA (l.take k)).flatMap rowA)) := by
        show ∀ w1, _ → _
        intro w1 hb1
        have h1 : Below W.heap.size W w1 := hbr.out.trans (hb1.mono hbr.out.size)
        exact ⟨Hwr.out.trans (hb1.mono Hwr.out.size), h1, (h1.block B (lt_of_block HB.out)).trans HB.out, own_below ho.out hb1⟩
      go_wp2_with fail
      go_loopw [11] (fun s11 wx => ∃ (j : Nat), s11 = .int .i64 j ∧ j ≤ k ∧ Hid (∀ i (hi : i < j) (hik : i < k), (l[i]'(by omega)).nam ≠ fnm) ∧ Hid (Below V.heap.size V wx)) (fun s11 _ => k - (intOf s11).toNat)
      case atStart => exact ⟨0, rfl, Nat.zero_le _, fun i hi _ => absurd hi (Nat.not_lt_zero _), Below.refl _ _⟩
      case round =>
        obtain ⟨j, rfl, hj, hne, hbx⟩ := hrel
        obtain ⟨X, hX⟩ : ∃ X, X = wr := ⟨_, rfl⟩
        subst hX
        obtain ⟨hx1, hx2, hx3, hx4⟩ := hend.out X hbx.out
        obtain ⟨fb, fo, rfl, m0, m1⟩ := HG.out X hbx.out
        by_cases hjk : j < k
        · obtain ⟨fb', fo', heq, j0, _⟩ := Sl.twoF (HF.out X hx1) (show j < l.length by omega)
          injection heq with heq
          injection heq with he1 he2
          subst he1 he2
          have hjl : (j : Int) < (l.length : Int) := by omega
          have hjn : j < l.length := by omega
          have HDj := Lib.hid (HDup.out j hjk)
          have Hjn : Hid (∀ g, l[j].nam = g → (g = fnm → okF l = false) ∧ (g ≠ fnm → ∀ i (hi : i < j + 1) (hik : i < k), (l[i]'(by omega)).nam ≠ fnm)) := by
            show ∀ g, _ → _
            rintro g rfl
            refine ⟨fun e => HDj.out (by rw [hf.out]; exact e), fun h i hi hik => ?_⟩
            rcases Nat.lt_or_ge i j with h2 | h2
            · exact hne.out i h2 hik
            · have : i = j := by omega
              subst this
              exact h
          obtain ⟨g, hg⟩ := hide l[j].nam
          rw [hg.out] at j0
          have hgg := Hjn.out g hg.out
          have Hx1 := Lib.hid hx1
          have Hx3 := Lib.hid hx3
          have Hgg := Lib.hid hgg
          have HDr : Hid (∀ n, Below X.heap.size X (X.drewN n)) := fun n => below_drewN (Below.refl _ _) n
          clear hx1 hx2 hx3 hx4 hgg
          by_cases he : g = fnm
          · have hno := Hgg.out.1 he
            have te : (g == fnm) = true := by rw [he]; exact beq_self_eq_true _
            clear he
            have HX3n : Hid (∀ n, (X.drewN n).heap[B]? = some (.cells zeroKept.toArray 43 (0, 0))) := fun n => Hx3.out
            have HX1n : Hid (∀ n, Below w.heap.size w (X.drewN n)) := fun n => below_drewN Hx1.out n
            go_upto_region 11 with (go_quiet (fail))
            have HY3 := Lib.hid (HX3n.out nq)
            have HY1 := Lib.hid (HX1n.out nq)
            clear m0 m1 j0
            generalize X.drewN nq = Y at HY3 HY1 ⊢
            have h9 := setAll_at HY3.out zeroKept rfl
            have H9 := Lib.hid h9
            have Hth : Hid (Y.there B 0 15) := there_ofW HY3.out
            have Hpost := Lib.hid (HNo.out hno Y HY1.out)
            clear h9
            refine wp_region_lit ?_
            iterate 3 go_step
            refine wpList_store_mid rfl 43 (.tmp 4) (.tmp 47) rfl B 0 zeroKept.toArray rfl rfl Hth.out size_kept (by simp [Value.oneCell']) ?_
            rw [setCells_eqW]
            show wpList _ _ _ _ _ (setAll Y B zeroKept)
            generalize setAll Y B zeroKept = W9 at H9 Hpost ⊢
            go_wp2_with fail
            refine bodyPost_ret (results_three rfl _ W9 B 43 zeroKept.toArray (0, 0) _ rfl H9.out Tryz.underlying43 rfl size_kept) rfl ?_
            exact Hpost.out
          · have hnx := Lib.hid (Hgg.out.2 he)
            have te : (g == fnm) = false := beq_eq_false_iff_ne.2 he
            clear he
            go_wp2_with (go_quiet (fail))
            go_roundw
            case rel => exact ⟨j + 1, by go_num, hjk, hnx, (by first | exact hbx.out.trans ((HDr.out _).mono hbx.out.size) | exact hbx.out)⟩
            case measure => simp [intOf]; omega
        · obtain rfl : j = k := by omega
          clear hjk
          have Hx1 := Lib.hid hx1
          have Hx2 := Lib.hid hx2
          have Hx3 := Lib.hid hx3
          have Hx4 := Lib.hid hx4
          have Hall : Hid (∀ i (hi : i < j), (l[i]'(by omega)).nam ≠ fnm) := fun i hi => hne.out i hi hi
          clear hx1 hx2 hx3 hx4
          by_cases h1 : fnm = nLog
          · have t1 : (fnm == nLog) = true := by rw [h1]; rfl
            have hsn2 := Hsn.out _ hf.out
            dsimp only at hsn2
            rw [if_pos h1, if_pos h1, List.append_nil] at hsn2
            have Hsn2 := Lib.hid hsn2
            have Hok2 := Lib.hid (HNext.out _ hf.out (fun i hi => Hall.out i hi) (Or.inl h1))
            clear h1 hsn2
            go_wp2_with fail
            go_roundw
            case rel => exact ⟨j + 1, fdt, aa, na, ca, by go_num, rfl, rfl, by omega, Hsn2.out.1.symm, by show World.ownsRow _ _ _ _ _ _ _; rw [Hsn2.out.2]; exact Hx4.out, by show _ = _; rw [Hsn2.out.2]; exact hna.out, Hok2, Hx2.out⟩
            case measure => simp [intOf]; omega
          · have t1 : (fnm == nLog) = false := beq_eq_false_iff_ne.2 h1
            by_cases h2 : fnm = nNew
            · have t2 : (fnm == nNew) = true := by rw [h2]; rfl
              have hsn2 := Hsn.out _ hf.out
              dsimp only at hsn2
              rw [if_neg h1, if_neg h1] at hsn2
              have Hsn2 := Lib.hid hsn2
              have Hok2 := Lib.hid (HNext.out _ hf.out (fun i hi => Hall.out i hi) (Or.inr h2))
              clear h1 h2 hsn2
              have HsA : Hid (Src Tryz.prog 5 35 (.slice (some ⟨X.heap.size, 0, none⟩) 1 1) 1 (([⟨7, nNew, [], [], 0⟩] : List ActP).flatMap rowA) (X.alloc (.cells (([⟨7, nNew, [], [], 0⟩] : List ActP).flatMap rowA).toArray 38))) := src_new (w := X) Tryz.underlying35 _ 1 rfl (acts_one [⟨7, nNew, [], [], 0⟩])
              have HoA : Hid ((X.alloc (.cells (([⟨7, nNew, [], [], 0⟩] : List ActP).flatMap rowA).toArray 38)).ownsRow W.heap.size 38 5 (.slice aa na ca) na ((newA (l.take j)).flatMap rowA)) := Hx4.out.alloc _
              have hbA : Below W.heap.size W (X.alloc (.cells (([⟨7, nNew, [], [], 0⟩] : List ActP).flatMap rowA).toArray 38)) := Hx2.out.alloc Hx2.out.size _
              have HbA := Lib.hid hbA
              have HSz := Lib.hid hbA.size
              clear hbA
              go_wp2_with (at_builtin; refine wpList_append_at rfl _ _ 35 35 rfl W.heap.size 38 _ 5 64 Tryz.underlying35 info_act rfl _ _ _ rfl HoA.out _ 1 _ rfl HsA.out (by unfold maxLen; omega) (by omega) HSz.out ?_)
              intro v9 w9 ho9 hg9 hb9
              obtain ⟨a9, k9, rfl⟩ := owns_slice ho9
              have Hb9 := Lib.hid (below_own HoA.out hg9 (Nat.le_refl _) HbA.out.size)
              have Hb9' : Hid (Below W.heap.size W w9) := HbA.out.trans Hb9.out
              have Ho9 : Hid (w9.ownsRow W.heap.size 38 5 (.slice a9 (na + 1) k9) (na + 1) ((newA (l.take (j + 1))).flatMap rowA)) := by
                show World.ownsRow _ _ _ _ _ _ _
                rw [Hsn2.out.2, List.flatMap_append]
                exact ho9
              have Hna9 : Hid (na + 1 = (newA (l.take (j + 1))).length) := by show _ = _; rw [Hsn2.out.2, List.length_append, hna.out]; rfl
              clear ho9 hg9 hb9
              go_wp2_with fail
              go_roundw
              case rel => exact ⟨j + 1, sv, a9, na + 1, k9, by go_num, rfl, rfl, by omega, Hsn2.out.1.symm, Ho9, Hna9, Hok2, Hb9'⟩
              case measure => simp [intOf]; omega
            · have t2 : (fnm == nNew) = false := beq_eq_false_iff_ne.2 h2
              have hno := HNo1.out _ hf.out (fun hh => hh.elim h1 h2)
              clear h1 h2
              have h9 := setAll_at Hx3.out zeroKept rfl
              have H9 := Lib.hid h9
              have Hth : Hid (X.there B 0 15) := there_ofW Hx3.out
              have Hpost := Lib.hid (HNo.out hno X Hx1.out)
              clear h9
              go_upto_region 13 with fail
              refine wp_region_lit ?_
              iterate 3 go_step
              refine wpList_store_mid rfl 43 (.tmp 4) (.tmp 53) rfl B 0 zeroKept.toArray rfl rfl Hth.out size_kept (by simp [Value.oneCell']) ?_
              rw [setCells_eqW]
              show wpList _ _ _ _ _ (setAll X B zeroKept)
              generalize setAll X B zeroKept = W9 at H9 Hpost ⊢
              go_wp2_with fail
              refine bodyPost_ret (results_three rfl _ W9 B 43 zeroKept.toArray (0, 0) _ rfl H9.out Tryz.underlying43 rfl size_kept) rfl ?_
              exact Hpost.out
    · obtain rfl : k = l.length := by omega
      rw [List.take_length] at hsv ho hna
      have hH := Lib.hid (HEnd.out V aa na ca hbr.out ho.out)
      have g1 : Hid (B ≠ P ∧ w.heap.size ≤ B ∧ ¬ (fun g => g ≠ P ∧ g ≠ B ∧ (Value.slice aa na ca).ownBlock ≠ some g) B) := by have h1 := Hsz.out; have h2 := hbr.out.size; exact ⟨by omega, by omega, fun hh => hh.2.1 rfl⟩
      have g2 : Hid (w.heap.size ≤ P) := by have h1 := Hsz.out; show _ ≤ _; omega
      have g3 : Hid (na = (newA l).length ∧ na ≤ 4) := ⟨hna.out, by have h1 := hok.out.two (Nat.le_refl _); have h2 := newA_len l; have h3 := hna.out; omega⟩
      have g4 : Hid (B < W.heap.size ∧ P < W.heap.size) := by have h1 := Hsz.out; exact ⟨by omega, by omega⟩
      have g5 : Hid (∀ g, (Value.slice aa na ca).ownBlock = some g → ¬ (fun g => g ≠ P ∧ g ≠ B ∧ (Value.slice aa na ca).ownBlock ≠ some g) g) := fun g hg hh => hh.2.2 hg
      have g6 : sv.length ≤ 4611686018427387904 := by rw [hsv.out]; exact logD_le l [] (Nat.zero_le _) HD.out
      have g7 := Lib.hid (HGo.out hok.out.all)
      have g8 : Hid (∀ e w', OpenPost w (match goP (zeroK c) sv with | none => none | some (k', rest) => if confOk k'.cf = true then some (fixK k', newA l ++ (cutOff sv rest ++ fixA k')) else none) e w' → post e w') := by show ∀ e w', _ → _; rw [hsv.out]; exact g7.out
      clear hlt hsv
      go_upto_if 28 with (fail)
      iterate 20 (first | done | (refine hK1 _ _ ?_; exact ropen_loop _ V.heap.size w V post W.heap.size B P (zeroK c) _ _ _ _ _ _ _ aa na ca (newA l) sv hH g1 g2 g3 g4 g5 g6 g8) | exact ropen_loop _ V.heap.size w V post W.heap.size B P (zeroK c) _ _ _ _ _ _ _ aa na ca (newA l) sv hH g1 g2 g3 g4 g5 g6 g8 | go_step)
end Go.Proofs.YtjlhlmnoomiblaaGreat
