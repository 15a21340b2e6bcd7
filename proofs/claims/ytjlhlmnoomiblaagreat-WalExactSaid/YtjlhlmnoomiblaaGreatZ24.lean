/-
  Reading entries and configurations, the document's way.
-/
import Derived.Test.YtjlhlmnoomiblaaGreatZ13
import Derived.Test.YtjlhlmnoomiblaaGreatZ09
import Derived.Deep.QuietTactic
import Derived.BigQuiet
namespace Go.Proofs.YtjlhlmnoomiblaaGreat
open Go.RowKit Wm Mm
set_option linter.unusedVariables false

def loopS : Nat → List Nat → St → List Nat × St
  | 0, acc, σ => (acc, σ)
  | _ + 1, acc, .error z => (acc, .error z)
  | k + 1, acc, .ok s => loopS k (acc ++ [stepV 0 rdNum (.ok s)]) (stepS rdNum (.ok s))
def listS (most : Nat) (σ : St) : List Nat × St := loopS (stepV 0 (rdUpTo most) σ) [] (stepS (rdUpTo most) σ)
theorem stepV_upTo (most : Nat) (σ : St) : stepV 0 (rdUpTo most) σ ≤ most := by
  cases σ with
  | error z => exact Nat.zero_le _
  | ok s =>
    simp only [stepV]
    match h : rdUpTo most s with
    | .error z => exact Nat.zero_le _
    | .ok (n, t) => exact (rdUpTo_le h).1

set_option maxHeartbeats 1000000 in
theorem numbers_rs {b : Nat} {σ : St} {w : World} (most : Nat) (hmost : most < 1000000) (h : Rs w b σ) :
    Calls Tryz.prog 109 #[.pointer (some ⟨b, 0, none⟩), .int .i64 most] w fun e w' =>
      ∃ v, e = .returned v ∧ w'.ownsRow w.heap.size 3 1 v (listS most σ).1.length ((listS most σ).1.map vNat) ∧ Rs w' b (listS most σ).2 ∧ w.grownBy w' (some b) := by
  obtain ⟨fin, HF⟩ := hide (listS most σ)
  rw [HF.out]
  unfold listS at HF
  have hblt : b < w.heap.size := Rs.lt h
  have HU := Lib.hid (upTo_rs most h)
  have hnm := stepV_upTo most σ
  obtain ⟨n, hn⟩ := hide (stepV 0 (rdUpTo most) σ)
  obtain ⟨σ0, hs0⟩ := hide (stepS (rdUpTo most) σ)
  rw [hn.out, hs0.out] at HF HU
  rw [hn.out] at hnm
  obtain ⟨B, hB⟩ := hide w.heap.size
  rw [hB.out] at hblt ⊢
  have hn1 : n ≤ 1000000 := by omega
  clear h hnm
  go_enter Tryz.func109, Tryz.ntmps109
  go_wp2_with fail
  refine HU.out.mono ?_
  rintro e w0 ⟨rfl, hr0, hg0⟩
  have Hr0 := Lib.hid hr0
  have Hg0 := Lib.hid hg0
  clear hr0 hg0 HU
  go_wp2_with fail
  go_loopw [6, 7] (fun v i wr => ∃ k : Nat, ∃ acc : List Nat, ∃ σ : St, i = .int .i64 k ∧ k ≤ n ∧ Hid (acc.length = k) ∧ Hid (Rs wr b σ) ∧ Hid (w.grownBy wr (some b)) ∧ Hid (wr.ownsRow B 3 1 v acc.length (acc.map vNat)) ∧ Hid (loopS (n - k) acc σ = fin))
    (fun _ i _ => n - (intOf i).toNat)
  case atStart => exact ⟨0, [], σ0, rfl, Nat.zero_le _, rfl, Hr0, Hg0, World.ownsRow_nil _ _ _ _, HF⟩
  case round =>
    obtain ⟨k, acc, σ, rfl, hk, hl, hr, hg, ho, hm⟩ := hrel
    by_cases hlt : k < n
    · cases σ with
      | error z =>
        have hc := hr.out
        have c1 := two_cell1 hc.1
        have hz : (z == 0) = false := beq_eq_false_iff_ne.2 hc.2
        have e1 : (acc, .error z) = fin := by rw [← hm.out, show n - k = (n - (k + 1)) + 1 from by omega]; rfl
        subst e1
        clear hc
        go_wp2_with fail
        go_ret
        exact ⟨_, rfl, ho.out, hr.out, hg.out⟩
      | ok s =>
        have c1 := two_cell1 hr.out.1
        have hm2 := hm.out
        rw [show n - k = (n - (k + 1)) + 1 from by omega, loopS] at hm2
        have HN := Lib.hid (number_rs hr.out)
        obtain ⟨x, hx⟩ := hide (stepV 0 rdNum (.ok s))
        obtain ⟨σ1, hs1⟩ := hide (stepS rdNum (.ok s))
        rw [hx.out, hs1.out] at hm2 HN
        have Hm2 := Lib.hid hm2
        clear hm2
        go_wp2_with fail
        refine HN.out.mono ?_
        clear c1
        rintro e w1 ⟨rfl, hr1, hg1⟩
        have Hr1 := Lib.hid hr1
        have Ho1 := Lib.hid (ho.out.kept hg1 (Or.inr (own_other ho.out hblt).symm))
        have Hg1 := Lib.hid (grown_trans hg.out hg1)
        have hBs : B ≤ w1.heap.size := by rw [← hB.out]; exact Nat.le_trans hg.out.size hg1.size
        have Hal : Hid (acc.length + 1 ≤ 1000001) := by have := hl.out; show _ ≤ _; omega
        clear hr1 hg1 HN
        go_wp2_with (at_builtin; refine wpList_push rfl _ _ 25 rfl B 3 (.int .i64 0) 1 8 Tryz.underlying25 info_int rfl (by decide) _ _ _ rfl Ho1.out _ rfl rfl (by intro u hu; simp at hu; subst hu; rfl) (by have := Hal.out; unfold maxLen; omega) (by have := Hal.out; omega) hBs ?_)
        intro v' w2 ho2 hg2
        have Hr2 := Lib.hid (Rs.kept Hr1.out hg2 (own_other Ho1.out hblt))
        have Hg2 := Lib.hid (grown_own Hg1.out Ho1.out (by rw [hB.out]; exact Nat.le_refl _) hg2)
        have Ho2 : Hid (w2.ownsRow B 3 1 v' (acc ++ [x]).length ((acc ++ [x]).map vNat)) := by
          show _
          have e1 : (acc ++ [x]).length = acc.length + 1 := by simp
          have e2 : (acc ++ [x]).map vNat = acc.map vNat ++ [.int .i64 x] := by simp
          rw [e1, e2]; exact ho2
        clear ho2 hg2
        go_wp2_with fail
        go_roundw
        case rel => exact ⟨k + 1, acc ++ [x], σ1, by go_num, by omega, by have := hl.out; show _ = _; simp [this], Hr2, Hg2, Ho2, Hm2⟩
        case measure => simp [intOf]; omega
    · have hkn : k = n := by omega
      have e1 : (acc, σ) = fin := by rw [← hm.out, show n - k = 0 from by omega]; rfl
      subst e1
      have Hkn := Lib.hid hkn
      clear hkn
      go_wp2_with fail
      go_ret
      exact ⟨_, rfl, ho.out, hr.out, hg.out⟩

/-- the result's cells, the local's cells, the reader -/
structure Stage (w W : World) (b B : Nat) (T : TypeId) (zero xs : List Value) (σ : St) : Prop where
  res : W.heap[B]? = some (.cells zero.toArray T (0, 0))
  req : W.heap[B + 1]? = some (.cells xs.toArray T (0, 0))
  rs : Rs W b σ
  grown : w.grownBy W (some b)
theorem Rs.other' {w : World} {b : Nat} {σ : St} (h : Rs w b σ) {a : Addr} (ha : a.block ≠ b) (v : Value) : Rs (w.setCell a v) b σ := by
  cases σ with
  | ok s => exact ⟨hp_set_other h.1 ha, h.2⟩
  | error z => exact ⟨hp_set_other h.1 ha, h.2⟩
theorem Stage.step {w W W' : World} {b B : Nat} {T : TypeId} {zero xs : List Value} {σ σ' : St} (h : Stage w W b B T zero xs σ) (hb : b < B) (hr : Rs W' b σ') (hg : W.grownBy W' (some b)) : Stage w W' b B T zero xs σ' :=
  ⟨(hg.block _ (lt_of_block h.res) (by simp; omega)).trans h.res, (hg.block _ (lt_of_block h.req) (by simp; omega)).trans h.req, hr, grown_trans h.grown hg⟩
theorem Stage.put {w W : World} {b B : Nat} {T : TypeId} {zero xs : List Value} {σ : St} (h : Stage w W b B T zero xs σ) (hb : b < B) (hw : w.heap.size ≤ B) (i : Nat) (v : Value) : Stage w (W.setCell ⟨B + 1, i, none⟩ v) b B T zero (xs.set i v) σ :=
  ⟨hp_set_other h.res (by simp), by rw [heap_setCell]; simp [h.req, storeIn], h.rs.other' (by simp; omega) v, grown_fresh' h.grown (by simp; omega) v⟩

def entS (σ : St) : Ent × St :=
  let i := stepV 0 rdNum σ
  let σ1 := stepS rdNum σ
  let t := stepV 0 rdNum σ1
  let σ2 := stepS rdNum σ1
  let k := stepV 0 rdNum σ2
  let σ3 := stepS rdNum σ2
  let d := stepV [] (rdText 256) σ3
  let σ4 := stepS (rdText 256) σ3
  (⟨i, t, k, d⟩, if isEntry i t k d = true then σ4 else badS 6 σ4)
def confS (σ : St) : Conf × St :=
  let l1 := listS 9 σ
  let l2 := listS 9 l1.2
  let l3 := listS 9 l2.2
  (⟨ints l1.1, ints l2.1, ints l3.1⟩, if validB ⟨ints l1.1, ints l2.1, ints l3.1⟩ = true then l3.2 else badS 8 l3.2)
theorem Rs.setAll' {w : World} {b B : Nat} {σ : St} (h : Rs w b σ) (hb : B ≠ b) (vs : List Value) : Rs (setAll w B vs) b σ := by
  cases σ with
  | ok s => exact ⟨setAll_other h.1 hb vs, h.2⟩
  | error z => exact ⟨setAll_other h.1 hb vs, h.2⟩

set_option maxHeartbeats 4000000 in
theorem entry_rs {b : Nat} {σ : St} {w : World} (h : Rs w b σ) :
    Calls Tryz.prog 96 #[.pointer (some ⟨b, 0, none⟩)] w fun e w' => e = .returned (vE (entS σ).1) ∧ Rs w' b (entS σ).2 ∧ w.grownBy w' (some b) := by
  obtain ⟨F, hF⟩ := hide (entS σ)
  rw [hF.out]
  unfold entS at hF
  simp only [] at hF
  have hbw : b < w.heap.size := Rs.lt h
  obtain ⟨V0, hV⟩ := hide ((w.alloc (.cells #[.int .i64 0, .int .i64 0, .int .i64 0, str []] 78)).alloc (.cells #[.int .i64 0, .int .i64 0, .int .i64 0, str []] 78))
  have h0 : Stage w V0 b w.heap.size 78 [.int .i64 0, .int .i64 0, .int .i64 0, str []] [.int .i64 0, .int .i64 0, .int .i64 0, str []] σ := by
    rw [← hV.out]
    refine ⟨(hp_past _ _ (by simp only [World.size_alloc]; omega)).trans (hp_at _ _ rfl), hp_at _ _ (by simp only [World.size_alloc]), ?_, ?_⟩
    · exact (h.kept (World.grownBy_alloc w _ none) (by simp)).kept (World.grownBy_alloc _ _ none) (by simp)
    · exact grown_trans (World.grownBy_alloc w _ _) (World.grownBy_alloc _ _ _)
  have Hbw := Lib.hid hbw
  have Hle : Hid (w.heap.size ≤ w.heap.size) := Nat.le_refl _
  have H0 := Lib.hid h0
  obtain ⟨i, hv1⟩ := hide (stepV 0 rdNum σ)
  obtain ⟨σ1, hs1⟩ := hide (stepS rdNum σ)
  rw [hv1.out, hs1.out] at hF
  obtain ⟨t, hv2⟩ := hide (stepV 0 rdNum σ1)
  obtain ⟨σ2, hs2⟩ := hide (stepS rdNum σ1)
  rw [hv2.out, hs2.out] at hF
  obtain ⟨k, hv3⟩ := hide (stepV 0 rdNum σ2)
  obtain ⟨σ3, hs3⟩ := hide (stepS rdNum σ2)
  rw [hv3.out, hs3.out] at hF
  obtain ⟨d, hv4⟩ := hide (stepV [] (rdText 256) σ3)
  obtain ⟨σ4, hs4⟩ := hide (stepS (rdText 256) σ3)
  rw [hv4.out, hs4.out] at hF
  clear h h0 hbw
  obtain ⟨B, hB⟩ := hide w.heap.size
  rw [hB.out] at H0 Hbw
  have Hle : Hid (w.heap.size ≤ B) := by rw [hB.out]; exact Nat.le_refl _
  go_enter Tryz.func96, Tryz.ntmps96
  go_wp2_with fail
  rw [hV.out, hB.out]
  refine (number_rs H0.out.rs).mono ?_
  rw [hv1.out, hs1.out]
  rintro e v1 ⟨rfl, hr, hg⟩
  have G1 := Lib.hid (H0.out.step Hbw.out hr hg)
  have H1 := Lib.hid ((G1.out.put Hbw.out Hle.out 0 (.int .i64 (i : Nat))))
  clear hr hg
  have q0 := cell_n G1.out.req 0 (v := .int .i64 0) rfl
  have f0 := free_n G1.out.req 0
  have q1 := cell_n G1.out.req 1 (v := .int .i64 0) rfl
  have f1 := free_n G1.out.req 1
  have q2 := cell_n G1.out.req 2 (v := .int .i64 0) rfl
  have f2 := free_n G1.out.req 2
  have q3 := cell_n G1.out.req 3 (v := str []) rfl
  have f3 := free_n G1.out.req 3
  go_wp2_with fail
  clear q0 f0 q1 f1 q2 f2 q3 f3
  refine (number_rs H1.out.rs).mono ?_
  rw [hv2.out, hs2.out]
  rintro e v2 ⟨rfl, hr, hg⟩
  have G2 := Lib.hid (H1.out.step Hbw.out hr hg)
  have H2 := Lib.hid ((G2.out.put Hbw.out Hle.out 1 (.int .i64 (t : Nat))))
  clear hr hg
  have q0 := cell_n G2.out.req 0 (v := .int .i64 (i : Nat)) rfl
  have f0 := free_n G2.out.req 0
  have q1 := cell_n G2.out.req 1 (v := .int .i64 0) rfl
  have f1 := free_n G2.out.req 1
  have q2 := cell_n G2.out.req 2 (v := .int .i64 0) rfl
  have f2 := free_n G2.out.req 2
  have q3 := cell_n G2.out.req 3 (v := str []) rfl
  have f3 := free_n G2.out.req 3
  go_wp2_with fail
  clear q0 f0 q1 f1 q2 f2 q3 f3
  refine (number_rs H2.out.rs).mono ?_
  rw [hv3.out, hs3.out]
  rintro e v3 ⟨rfl, hr, hg⟩
  have G3 := Lib.hid (H2.out.step Hbw.out hr hg)
  have H3 := Lib.hid ((G3.out.put Hbw.out Hle.out 2 (.int .i64 (k : Nat))))
  clear hr hg
  have q0 := cell_n G3.out.req 0 (v := .int .i64 (i : Nat)) rfl
  have f0 := free_n G3.out.req 0
  have q1 := cell_n G3.out.req 1 (v := .int .i64 (t : Nat)) rfl
  have f1 := free_n G3.out.req 1
  have q2 := cell_n G3.out.req 2 (v := .int .i64 0) rfl
  have f2 := free_n G3.out.req 2
  have q3 := cell_n G3.out.req 3 (v := str []) rfl
  have f3 := free_n G3.out.req 3
  go_wp2_with fail
  clear q0 f0 q1 f1 q2 f2 q3 f3
  refine (text_rs 256 H3.out.rs).mono ?_
  rw [hv4.out, hs4.out]
  rintro e v4 ⟨rfl, hr, hg⟩
  have G4 := Lib.hid (H3.out.step Hbw.out hr hg)
  have H4 := Lib.hid ((G4.out.put Hbw.out Hle.out 3 (str d)))
  clear hr hg
  have q0 := cell_n G4.out.req 0 (v := .int .i64 (i : Nat)) rfl
  have f0 := free_n G4.out.req 0
  have q1 := cell_n G4.out.req 1 (v := .int .i64 (t : Nat)) rfl
  have f1 := free_n G4.out.req 1
  have q2 := cell_n G4.out.req 2 (v := .int .i64 (k : Nat)) rfl
  have f2 := free_n G4.out.req 2
  have q3 := cell_n G4.out.req 3 (v := str []) rfl
  have f3 := free_n G4.out.req 3
  go_upto_region 6 with fail
  clear q0 f0 q1 f1 q2 f2 q3 f3
  obtain ⟨W4, hW4⟩ := hide (v4.setCell ⟨B + 1, 3, none⟩ (str d))
  change Code.wp _ _ _ _ (v4.setCell ⟨B + 1, 3, none⟩ (str d))
  rw [hW4.out]
  have H9 : Hid (Stage w W4 b B 78 [.int .i64 0, .int .i64 0, .int .i64 0, str []] [.int .i64 (i : Nat), .int .i64 (t : Nat), .int .i64 (k : Nat), str d] σ4) := by rw [← hW4.out]; exact H4.out
  have q0 := cell_n H9.out.req 0 (v := .int .i64 (i : Nat)) rfl
  have q1 := cell_n H9.out.req 1 (v := .int .i64 (t : Nat)) rfl
  have q2 := cell_n H9.out.req 2 (v := .int .i64 (k : Nat)) rfl
  have q3 := cell_n H9.out.req 3 (v := str d) rfl
  have HV := Lib.hid ((ref_isEntry i t k d W4).mono fun e w' h => (⟨h.1, by rw [← h.2]; exact (Below.refl _ _).alloc (Nat.le_refl _) _⟩ : e = .returned (.bool (isEntry i t k d)) ∧ Below W4.heap.size W4 w'))
  go_wp2_with fail
  refine HV.out.mono ?_
  rintro e w5 ⟨rfl, hb5⟩
  clear q0 q1 q2 q3
  have hq5 := (hb5.block _ (lt_of_block H9.out.req)).trans H9.out.req
  have hc5 := (hb5.block _ (lt_of_block H9.out.res)).trans H9.out.res
  have hr5 : Rs w5 b σ4 := H9.out.rs.kept (below_grown hb5 none) (by simp)
  have hg5 : w.grownBy w5 (some b) := grown_trans H9.out.grown (below_grown hb5 _)
  have Hq5 := Lib.hid hq5
  have Hc5 := Lib.hid hc5
  have Hr5 := Lib.hid hr5
  have Hg5 := Lib.hid hg5
  clear hq5 hc5 hr5 hg5 hb5
  cases hok : isEntry i t k d with
  | false =>
    have EF : Hid (F = ((⟨i, t, k, d⟩ : Ent), (badS 6 σ4))) := by show _ = _; rw [← hF.out, if_neg (by simp [hok])]
    clear hok
    go_wp2_with fail
    refine (bad_rs 6 (by decide) Hr5.out).mono ?_
    rintro e w6 ⟨rfl, hr6, hg6⟩
    have hq6 := (hg6.block _ (lt_of_block Hq5.out) (by have := Hbw.out; simp; omega)).trans Hq5.out
    have hc6 := (hg6.block _ (lt_of_block Hc5.out) (by have := Hbw.out; simp; omega)).trans Hc5.out
    have hgg6 := grown_trans Hg5.out hg6
    clear hg6
    have he := setAll_at hc6 [.int .i64 (i : Nat), .int .i64 (t : Nat), .int .i64 (k : Nat), str d] rfl
    have hre : Rs (setAll w6 B [.int .i64 (i : Nat), .int .i64 (t : Nat), .int .i64 (k : Nat), str d]) b (badS 6 σ4) := Rs.setAll' hr6 (by have := Hbw.out; omega) _
    have hge := setAll_grown hgg6 Hle.out [.int .i64 (i : Nat), .int .i64 (t : Nat), .int .i64 (k : Nat), str d]
    have He := Lib.hid he
    have Hre := Lib.hid hre
    have Hge := Lib.hid hge
    have q0 := cell_n hq6 0 (v := .int .i64 (i : Nat)) rfl
    have c0 := cell_n hc6 0 (v := .int .i64 0) rfl
    have f0 := free_n hc6 0
    have q1 := cell_n hq6 1 (v := .int .i64 (t : Nat)) rfl
    have c1 := cell_n hc6 1 (v := .int .i64 0) rfl
    have f1 := free_n hc6 1
    have q2 := cell_n hq6 2 (v := .int .i64 (k : Nat)) rfl
    have c2 := cell_n hc6 2 (v := .int .i64 0) rfl
    have f2 := free_n hc6 2
    have q3 := cell_n hq6 3 (v := str d) rfl
    have c3 := cell_n hc6 3 (v := str []) rfl
    have f3 := free_n hc6 3
    clear he hre hge hq6 hc6 hr6 hgg6
    go_wp2_with fail
    change bodyPost _ _ _ Exit.ret _ (setAll w6 B [.int .i64 (i : Nat), .int .i64 (t : Nat), .int .i64 (k : Nat), str d])
    generalize setAll w6 B [.int .i64 (i : Nat), .int .i64 (t : Nat), .int .i64 (k : Nat), str d] = W5 at He Hre Hge  ⊢
    clear c0 f0 c1 f1 c2 f2 c3 f3
    have c0 := cell_n He.out 0 (v := .int .i64 (i : Nat)) rfl
    have c1 := cell_n He.out 1 (v := .int .i64 (t : Nat)) rfl
    have c2 := cell_n He.out 2 (v := .int .i64 (k : Nat)) rfl
    have c3 := cell_n He.out 3 (v := str d) rfl
    refine bodyPost_ret (by simp [results, Tryz.results96, go_sem, c0, c1, c2, c3]; rfl) rfl ?_
    rw [EF.out]
    exact ⟨rfl, Hre.out, Hge.out⟩
  | true =>
    have EF : Hid (F = ((⟨i, t, k, d⟩ : Ent), σ4)) := by show _ = _; rw [← hF.out, if_pos hok]
    clear hok
    obtain ⟨w6, hw6⟩ := hide w5
    rw [hw6.out] at Hq5 Hc5 Hr5 Hg5  ⊢
    have hq6 := Hq5.out
    have hc6 := Hc5.out
    have hr6 := Hr5.out
    have hgg6 := Hg5.out
    have he := setAll_at hc6 [.int .i64 (i : Nat), .int .i64 (t : Nat), .int .i64 (k : Nat), str d] rfl
    have hre : Rs (setAll w6 B [.int .i64 (i : Nat), .int .i64 (t : Nat), .int .i64 (k : Nat), str d]) b σ4 := Rs.setAll' hr6 (by have := Hbw.out; omega) _
    have hge := setAll_grown hgg6 Hle.out [.int .i64 (i : Nat), .int .i64 (t : Nat), .int .i64 (k : Nat), str d]
    have He := Lib.hid he
    have Hre := Lib.hid hre
    have Hge := Lib.hid hge
    have q0 := cell_n hq6 0 (v := .int .i64 (i : Nat)) rfl
    have c0 := cell_n hc6 0 (v := .int .i64 0) rfl
    have f0 := free_n hc6 0
    have q1 := cell_n hq6 1 (v := .int .i64 (t : Nat)) rfl
    have c1 := cell_n hc6 1 (v := .int .i64 0) rfl
    have f1 := free_n hc6 1
    have q2 := cell_n hq6 2 (v := .int .i64 (k : Nat)) rfl
    have c2 := cell_n hc6 2 (v := .int .i64 0) rfl
    have f2 := free_n hc6 2
    have q3 := cell_n hq6 3 (v := str d) rfl
    have c3 := cell_n hc6 3 (v := str []) rfl
    have f3 := free_n hc6 3
    clear he hre hge hq6 hc6 hr6 hgg6
    go_wp2_with fail
    change bodyPost _ _ _ Exit.ret _ (setAll w6 B [.int .i64 (i : Nat), .int .i64 (t : Nat), .int .i64 (k : Nat), str d])
    generalize setAll w6 B [.int .i64 (i : Nat), .int .i64 (t : Nat), .int .i64 (k : Nat), str d] = W5 at He Hre Hge  ⊢
    clear c0 f0 c1 f1 c2 f2 c3 f3
    have c0 := cell_n He.out 0 (v := .int .i64 (i : Nat)) rfl
    have c1 := cell_n He.out 1 (v := .int .i64 (t : Nat)) rfl
    have c2 := cell_n He.out 2 (v := .int .i64 (k : Nat)) rfl
    have c3 := cell_n He.out 3 (v := str d) rfl
    refine bodyPost_ret (by simp [results, Tryz.results96, go_sem, c0, c1, c2, c3]; rfl) rfl ?_
    rw [EF.out]
    exact ⟨rfl, Hre.out, Hge.out⟩

set_option maxHeartbeats 4000000 in
theorem config_rs {b : Nat} {σ : St} {w : World} (h : Rs w b σ) :
    Calls Tryz.prog 106 #[.pointer (some ⟨b, 0, none⟩)] w fun e w' => ∃ x y z, e = .returned (.agg #[x, y, z]) ∧ Config3F w.heap.size w' x y z (confS σ).1 ∧ Rs w' b (confS σ).2 ∧ w.grownBy w' (some b) := by
  obtain ⟨F, hF⟩ := hide (confS σ)
  rw [hF.out]
  unfold confS at hF
  simp only [] at hF
  have hbw : b < w.heap.size := Rs.lt h
  obtain ⟨V0, hV⟩ := hide ((w.alloc (.cells #[.slice none 0 0, .slice none 0 0, .slice none 0 0] 27)).alloc (.cells #[.slice none 0 0, .slice none 0 0, .slice none 0 0] 27))
  have h0 : Stage w V0 b w.heap.size 27 [.slice none 0 0, .slice none 0 0, .slice none 0 0] [.slice none 0 0, .slice none 0 0, .slice none 0 0] σ := by
    rw [← hV.out]
    refine ⟨(hp_past _ _ (by simp only [World.size_alloc]; omega)).trans (hp_at _ _ rfl), hp_at _ _ (by simp only [World.size_alloc]), ?_, ?_⟩
    · exact (h.kept (World.grownBy_alloc w _ none) (by simp)).kept (World.grownBy_alloc _ _ none) (by simp)
    · exact grown_trans (World.grownBy_alloc w _ _) (World.grownBy_alloc _ _ _)
  have Hbw := Lib.hid hbw
  have Hle : Hid (w.heap.size ≤ w.heap.size) := Nat.le_refl _
  have H0 := Lib.hid h0
  obtain ⟨l1, hl1⟩ := hide (listS 9 σ)
  rw [hl1.out] at hF
  obtain ⟨l2, hl2⟩ := hide (listS 9 l1.2)
  rw [hl2.out] at hF
  obtain ⟨l3, hl3⟩ := hide (listS 9 l2.2)
  rw [hl3.out] at hF
  clear h h0 hbw
  obtain ⟨B, hB⟩ := hide w.heap.size
  rw [hB.out] at H0 Hbw
  have Hle : Hid (w.heap.size ≤ B) := by rw [hB.out]; exact Nat.le_refl _
  go_enter Tryz.func106, Tryz.ntmps106
  go_wp2_with fail
  rw [hV.out, hB.out]
  refine (numbers_rs 9 (by decide) H0.out.rs).mono ?_
  rw [hl1.out]
  rintro e v1 ⟨u1, rfl, ho, hr, hg⟩
  obtain ⟨ao1, cp1, rfl⟩ := owns_slice ho
  have HI1 : Hid (IntsF (B + 2) v1 (.slice ao1 l1.1.length cp1) (ints l1.1)) := (IntsF.of_own (by rw [ints_own]; exact ho)).base (by have := lt_of_block H0.out.req; omega)
  clear ho
  have G1 := Lib.hid (H0.out.step Hbw.out hr hg)
  have H1 := Lib.hid ((G1.out.put Hbw.out Hle.out 0 (.slice ao1 l1.1.length cp1)))
  clear hr hg
  have q0 := cell_n G1.out.req 0 (v := .slice none 0 0) rfl
  have f0 := free_n G1.out.req 0
  have q1 := cell_n G1.out.req 1 (v := .slice none 0 0) rfl
  have f1 := free_n G1.out.req 1
  have q2 := cell_n G1.out.req 2 (v := .slice none 0 0) rfl
  have f2 := free_n G1.out.req 2
  go_wp2_with fail
  clear q0 f0 q1 f1 q2 f2
  refine (numbers_rs 9 (by decide) H1.out.rs).mono ?_
  rw [hl2.out]
  rintro e v2 ⟨u2, rfl, ho, hr, hg⟩
  obtain ⟨ao2, cp2, rfl⟩ := owns_slice ho
  have HI2 : Hid (IntsF (B + 2) v2 (.slice ao2 l2.1.length cp2) (ints l2.1)) := (IntsF.of_own (by rw [ints_own]; exact ho)).base (by have := lt_of_block H1.out.req; omega)
  clear ho
  have HI1' := Lib.hid (((HI1.out.up (S' := B + 2) (Up.setCell (B + 2) _ (a := ⟨B + 1, 0, none⟩) (by simp) (.slice ao1 l1.1.length cp1)) (Nat.le_refl _))).up (Up.ofGrown hg (by have := Hbw.out; omega)) (Nat.le_refl _))
  clear HI1
  have HI1 := HI1'
  clear HI1'
  have G2 := Lib.hid (H1.out.step Hbw.out hr hg)
  have H2 := Lib.hid ((G2.out.put Hbw.out Hle.out 1 (.slice ao2 l2.1.length cp2)))
  clear hr hg
  have q0 := cell_n G2.out.req 0 (v := .slice ao1 l1.1.length cp1) rfl
  have f0 := free_n G2.out.req 0
  have q1 := cell_n G2.out.req 1 (v := .slice none 0 0) rfl
  have f1 := free_n G2.out.req 1
  have q2 := cell_n G2.out.req 2 (v := .slice none 0 0) rfl
  have f2 := free_n G2.out.req 2
  go_wp2_with fail
  clear q0 f0 q1 f1 q2 f2
  refine (numbers_rs 9 (by decide) H2.out.rs).mono ?_
  rw [hl3.out]
  rintro e v3 ⟨u3, rfl, ho, hr, hg⟩
  obtain ⟨ao3, cp3, rfl⟩ := owns_slice ho
  have HI3 : Hid (IntsF (B + 2) v3 (.slice ao3 l3.1.length cp3) (ints l3.1)) := (IntsF.of_own (by rw [ints_own]; exact ho)).base (by have := lt_of_block H2.out.req; omega)
  clear ho
  have HI1' := Lib.hid (((HI1.out.up (S' := B + 2) (Up.setCell (B + 2) _ (a := ⟨B + 1, 1, none⟩) (by simp) (.slice ao2 l2.1.length cp2)) (Nat.le_refl _))).up (Up.ofGrown hg (by have := Hbw.out; omega)) (Nat.le_refl _))
  clear HI1
  have HI1 := HI1'
  clear HI1'
  have HI2' := Lib.hid (((HI2.out.up (S' := B + 2) (Up.setCell (B + 2) _ (a := ⟨B + 1, 1, none⟩) (by simp) (.slice ao2 l2.1.length cp2)) (Nat.le_refl _))).up (Up.ofGrown hg (by have := Hbw.out; omega)) (Nat.le_refl _))
  clear HI2
  have HI2 := HI2'
  clear HI2'
  have G3 := Lib.hid (H2.out.step Hbw.out hr hg)
  have H3 := Lib.hid ((G3.out.put Hbw.out Hle.out 2 (.slice ao3 l3.1.length cp3)))
  clear hr hg
  have q0 := cell_n G3.out.req 0 (v := .slice ao1 l1.1.length cp1) rfl
  have f0 := free_n G3.out.req 0
  have q1 := cell_n G3.out.req 1 (v := .slice ao2 l2.1.length cp2) rfl
  have f1 := free_n G3.out.req 1
  have q2 := cell_n G3.out.req 2 (v := .slice none 0 0) rfl
  have f2 := free_n G3.out.req 2
  go_upto_region 5 with fail
  clear q0 f0 q1 f1 q2 f2
  obtain ⟨W4, hW4⟩ := hide (v3.setCell ⟨B + 1, 2, none⟩ (.slice ao3 l3.1.length cp3))
  change Code.wp _ _ _ _ (v3.setCell ⟨B + 1, 2, none⟩ (.slice ao3 l3.1.length cp3))
  rw [hW4.out]
  have H9 : Hid (Stage w W4 b B 27 [.slice none 0 0, .slice none 0 0, .slice none 0 0] [.slice ao1 l1.1.length cp1, .slice ao2 l2.1.length cp2, .slice ao3 l3.1.length cp3] l3.2) := by rw [← hW4.out]; exact H3.out
  have HJ1 := Lib.hid (HI1.out.up (w' := W4) (S' := B + 2) (by rw [← hW4.out]; exact Up.setCell (B + 2) _ (a := ⟨B + 1, 2, none⟩) (by simp) (.slice ao3 l3.1.length cp3)) (Nat.le_refl _))
  have HJ2 := Lib.hid (HI2.out.up (w' := W4) (S' := B + 2) (by rw [← hW4.out]; exact Up.setCell (B + 2) _ (a := ⟨B + 1, 2, none⟩) (by simp) (.slice ao3 l3.1.length cp3)) (Nat.le_refl _))
  have HJ3 := Lib.hid (HI3.out.up (w' := W4) (S' := B + 2) (by rw [← hW4.out]; exact Up.setCell (B + 2) _ (a := ⟨B + 1, 2, none⟩) (by simp) (.slice ao3 l3.1.length cp3)) (Nat.le_refl _))
  have q0 := cell_n H9.out.req 0 (v := .slice ao1 l1.1.length cp1) rfl
  have q1 := cell_n H9.out.req 1 (v := .slice ao2 l2.1.length cp2) rfl
  have q2 := cell_n H9.out.req 2 (v := .slice ao3 l3.1.length cp3) rfl
  have HV := Lib.hid (ref_isConfig _ _ _ ⟨ints l1.1, ints l2.1, ints l3.1⟩ W4 ⟨HJ1.out.ints, HJ2.out.ints, HJ3.out.ints⟩)
  go_wp2_with fail
  refine HV.out.mono ?_
  rintro e w5 ⟨rfl, hb5⟩
  clear q0 q1 q2
  have hq5 := (hb5.block _ (lt_of_block H9.out.req)).trans H9.out.req
  have hc5 := (hb5.block _ (lt_of_block H9.out.res)).trans H9.out.res
  have hr5 : Rs w5 b l3.2 := H9.out.rs.kept (below_grown hb5 none) (by simp)
  have hg5 : w.grownBy w5 (some b) := grown_trans H9.out.grown (below_grown hb5 _)
  have HK1 := Lib.hid (HJ1.out.up (S' := B + 2) (Up.ofBelow hb5) (Nat.le_refl _))
  have HK2 := Lib.hid (HJ2.out.up (S' := B + 2) (Up.ofBelow hb5) (Nat.le_refl _))
  have HK3 := Lib.hid (HJ3.out.up (S' := B + 2) (Up.ofBelow hb5) (Nat.le_refl _))
  have Hq5 := Lib.hid hq5
  have Hc5 := Lib.hid hc5
  have Hr5 := Lib.hid hr5
  have Hg5 := Lib.hid hg5
  clear hq5 hc5 hr5 hg5 hb5
  cases hok : validB ⟨ints l1.1, ints l2.1, ints l3.1⟩ with
  | false =>
    have EF : Hid (F = ((⟨ints l1.1, ints l2.1, ints l3.1⟩ : Conf), (badS 8 l3.2))) := by show _ = _; rw [← hF.out, if_neg (by simp [hok])]
    clear hok
    go_wp2_with fail
    refine (bad_rs 8 (by decide) Hr5.out).mono ?_
    rintro e w6 ⟨rfl, hr6, hg6⟩
    have hq6 := (hg6.block _ (lt_of_block Hq5.out) (by have := Hbw.out; simp; omega)).trans Hq5.out
    have hc6 := (hg6.block _ (lt_of_block Hc5.out) (by have := Hbw.out; simp; omega)).trans Hc5.out
    have hgg6 := grown_trans Hg5.out hg6
    have HM1 := Lib.hid (HK1.out.up (S' := B + 2) (Up.ofGrown hg6 (by have := Hbw.out; omega)) (Nat.le_refl _))
    have HM2 := Lib.hid (HK2.out.up (S' := B + 2) (Up.ofGrown hg6 (by have := Hbw.out; omega)) (Nat.le_refl _))
    have HM3 := Lib.hid (HK3.out.up (S' := B + 2) (Up.ofGrown hg6 (by have := Hbw.out; omega)) (Nat.le_refl _))
    clear hg6
    have he := setAll_at hc6 [.slice ao1 l1.1.length cp1, .slice ao2 l2.1.length cp2, .slice ao3 l3.1.length cp3] rfl
    have hre : Rs (setAll w6 B [.slice ao1 l1.1.length cp1, .slice ao2 l2.1.length cp2, .slice ao3 l3.1.length cp3]) b (badS 8 l3.2) := Rs.setAll' hr6 (by have := Hbw.out; omega) _
    have hge := setAll_grown hgg6 Hle.out [.slice ao1 l1.1.length cp1, .slice ao2 l2.1.length cp2, .slice ao3 l3.1.length cp3]
    have HL1 := Lib.hid (HM1.out.up (w' := setAll w6 B [.slice ao1 l1.1.length cp1, .slice ao2 l2.1.length cp2, .slice ao3 l3.1.length cp3]) (S' := B + 2) (Up.setAll _ w6 (by omega) _) (Nat.le_refl _))
    have HL2 := Lib.hid (HM2.out.up (w' := setAll w6 B [.slice ao1 l1.1.length cp1, .slice ao2 l2.1.length cp2, .slice ao3 l3.1.length cp3]) (S' := B + 2) (Up.setAll _ w6 (by omega) _) (Nat.le_refl _))
    have HL3 := Lib.hid (HM3.out.up (w' := setAll w6 B [.slice ao1 l1.1.length cp1, .slice ao2 l2.1.length cp2, .slice ao3 l3.1.length cp3]) (S' := B + 2) (Up.setAll _ w6 (by omega) _) (Nat.le_refl _))
    have He := Lib.hid he
    have Hre := Lib.hid hre
    have Hge := Lib.hid hge
    have q0 := cell_n hq6 0 (v := .slice ao1 l1.1.length cp1) rfl
    have c0 := cell_n hc6 0 (v := .slice none 0 0) rfl
    have f0 := free_n hc6 0
    have q1 := cell_n hq6 1 (v := .slice ao2 l2.1.length cp2) rfl
    have c1 := cell_n hc6 1 (v := .slice none 0 0) rfl
    have f1 := free_n hc6 1
    have q2 := cell_n hq6 2 (v := .slice ao3 l3.1.length cp3) rfl
    have c2 := cell_n hc6 2 (v := .slice none 0 0) rfl
    have f2 := free_n hc6 2
    clear he hre hge hq6 hc6 hr6 hgg6
    go_wp2_with fail
    change bodyPost _ _ _ Exit.ret _ (setAll w6 B [.slice ao1 l1.1.length cp1, .slice ao2 l2.1.length cp2, .slice ao3 l3.1.length cp3])
    generalize setAll w6 B [.slice ao1 l1.1.length cp1, .slice ao2 l2.1.length cp2, .slice ao3 l3.1.length cp3] = W5 at He Hre Hge HL1 HL2 HL3 ⊢
    clear c0 f0 c1 f1 c2 f2
    have c0 := cell_n He.out 0 (v := .slice ao1 l1.1.length cp1) rfl
    have c1 := cell_n He.out 1 (v := .slice ao2 l2.1.length cp2) rfl
    have c2 := cell_n He.out 2 (v := .slice ao3 l3.1.length cp3) rfl
    refine bodyPost_ret (by simp [results, Tryz.results106, go_sem, c0, c1, c2]; rfl) rfl ?_
    rw [EF.out]
    exact ⟨_, _, _, rfl, ⟨HL1.out.base (by have := hB.out; omega), HL2.out.base (by have := hB.out; omega), HL3.out.base (by have := hB.out; omega)⟩, Hre.out, Hge.out⟩
  | true =>
    have EF : Hid (F = ((⟨ints l1.1, ints l2.1, ints l3.1⟩ : Conf), l3.2)) := by show _ = _; rw [← hF.out, if_pos hok]
    clear hok
    obtain ⟨w6, hw6⟩ := hide w5
    rw [hw6.out] at Hq5 Hc5 Hr5 Hg5 HK1 HK2 HK3 ⊢
    have hq6 := Hq5.out
    have hc6 := Hc5.out
    have hr6 := Hr5.out
    have hgg6 := Hg5.out
    have HM1 := HK1
    have HM2 := HK2
    have HM3 := HK3
    have he := setAll_at hc6 [.slice ao1 l1.1.length cp1, .slice ao2 l2.1.length cp2, .slice ao3 l3.1.length cp3] rfl
    have hre : Rs (setAll w6 B [.slice ao1 l1.1.length cp1, .slice ao2 l2.1.length cp2, .slice ao3 l3.1.length cp3]) b l3.2 := Rs.setAll' hr6 (by have := Hbw.out; omega) _
    have hge := setAll_grown hgg6 Hle.out [.slice ao1 l1.1.length cp1, .slice ao2 l2.1.length cp2, .slice ao3 l3.1.length cp3]
    have HL1 := Lib.hid (HM1.out.up (w' := setAll w6 B [.slice ao1 l1.1.length cp1, .slice ao2 l2.1.length cp2, .slice ao3 l3.1.length cp3]) (S' := B + 2) (Up.setAll _ w6 (by omega) _) (Nat.le_refl _))
    have HL2 := Lib.hid (HM2.out.up (w' := setAll w6 B [.slice ao1 l1.1.length cp1, .slice ao2 l2.1.length cp2, .slice ao3 l3.1.length cp3]) (S' := B + 2) (Up.setAll _ w6 (by omega) _) (Nat.le_refl _))
    have HL3 := Lib.hid (HM3.out.up (w' := setAll w6 B [.slice ao1 l1.1.length cp1, .slice ao2 l2.1.length cp2, .slice ao3 l3.1.length cp3]) (S' := B + 2) (Up.setAll _ w6 (by omega) _) (Nat.le_refl _))
    have He := Lib.hid he
    have Hre := Lib.hid hre
    have Hge := Lib.hid hge
    have q0 := cell_n hq6 0 (v := .slice ao1 l1.1.length cp1) rfl
    have c0 := cell_n hc6 0 (v := .slice none 0 0) rfl
    have f0 := free_n hc6 0
    have q1 := cell_n hq6 1 (v := .slice ao2 l2.1.length cp2) rfl
    have c1 := cell_n hc6 1 (v := .slice none 0 0) rfl
    have f1 := free_n hc6 1
    have q2 := cell_n hq6 2 (v := .slice ao3 l3.1.length cp3) rfl
    have c2 := cell_n hc6 2 (v := .slice none 0 0) rfl
    have f2 := free_n hc6 2
    clear he hre hge hq6 hc6 hr6 hgg6
    go_wp2_with fail
    change bodyPost _ _ _ Exit.ret _ (setAll w6 B [.slice ao1 l1.1.length cp1, .slice ao2 l2.1.length cp2, .slice ao3 l3.1.length cp3])
    generalize setAll w6 B [.slice ao1 l1.1.length cp1, .slice ao2 l2.1.length cp2, .slice ao3 l3.1.length cp3] = W5 at He Hre Hge HL1 HL2 HL3 ⊢
    clear c0 f0 c1 f1 c2 f2
    have c0 := cell_n He.out 0 (v := .slice ao1 l1.1.length cp1) rfl
    have c1 := cell_n He.out 1 (v := .slice ao2 l2.1.length cp2) rfl
    have c2 := cell_n He.out 2 (v := .slice ao3 l3.1.length cp3) rfl
    refine bodyPost_ret (by simp [results, Tryz.results106, go_sem, c0, c1, c2]; rfl) rfl ?_
    rw [EF.out]
    exact ⟨_, _, _, rfl, ⟨HL1.out.base (by have := hB.out; omega), HL2.out.base (by have := hB.out; omega), HL3.out.base (by have := hB.out; omega)⟩, Hre.out, Hge.out⟩
end Go.Proofs.YtjlhlmnoomiblaaGreat
