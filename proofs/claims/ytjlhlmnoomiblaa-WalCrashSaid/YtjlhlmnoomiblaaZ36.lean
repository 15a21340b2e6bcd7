/-
  What files say, read by the program (package wal): record by record.
-/
import Derived.Test.YtjlhlmnoomiblaaZ32
import Derived.Test.YtjlhlmnoomiblaaZ35
import Derived.Deep.CutBlock
namespace Go.Proofs.Ytjlhlmnoomiblaa
open Go.RowKit Wm Mm Lg Fl
set_option linter.unusedVariables false
set_option linter.unusedSimpArgs false

theorem unframe_err {s : List UInt8} {z : Int} (h : unframe s = .error z) : z ≠ 0 := by
  unfold unframe at h
  split at h
  · rename_i hx; injection h with h; subst h; exact rdText_err hx
  · split at h
    · rename_i hx; injection h with h; subst h; exact rdTake_err hx
    · split at h
      · cases h
      · injection h with h; subst h; decide
def strLen (v : Value) : Nat := match v with | .string b => b.size | _ => 0
theorem strLen_str (l : List UInt8) : strLen (str l) = l.length := by simp [strLen, str, ByteArray.size]
/-- what stands at the head of a round -/
structure Here (N : Nat → Prop) (w : World) (S T B P : Nat) (aa : Option Addr) (na ca : Nat) (al : List ActP) (wr : World) (k : Kp) (ev x y z cx cy cz : Value) : Prop where
  K : KeptAt N T wr P k ev x y z cx cy cz
  B : wr.heap[B]? = some (.cells zeroKept.toArray 33 (0, 0))
  A : wr.ownsRow S 45 5 (.slice aa na ca) na (al.flatMap rowA)
  W : Below w.heap.size w wr
  I : InvK k
  S : S ≤ wr.heap.size
theorem Here.below {N : Nat → Prop} {w : World} {S T B P : Nat} {aa : Option Addr} {na ca : Nat} {al : List ActP} {wr w1 : World} {k : Kp} {ev x y z cx cy cz : Value} (h : Here N w S T B P aa na ca al wr k ev x y z cx cy cz) (hb : Below wr.heap.size wr w1) : Here N w S T B P aa na ca al w1 k ev x y z cx cy cz :=
  ⟨h.K.below hb, (hb.block B (lt_of_block h.B)).trans h.B, own_below h.A hb, h.W.trans (hb.mono h.W.size), h.I, Nat.le_trans h.S hb.size⟩
set_option maxHeartbeats 4000000 in
set_option maxRecDepth 100000 in
theorem open_loop {v0 v1 v2 v3 v5 v6 v10 v11 v12 v13 v14 v15 v16 v17 v18 v19 v20 v21 v22 v23 v24 v25 v26 v27 v28 v29 v30 v31 v32 v33 v34 v35 v36 v37 v38 v39 v40 v41 v42 v43 v44 v45 v46 v47 v48 v49 v50 v51 v52 v53 v54 v55 v56 v57 v58 v59 v60 v61 v62 v63 v64 v65 v66 v67 v68 v69 v70 v71 v72 v73 v74 v75 v76 v77 v78 v79 v80 v81 v82 v83 v84 v85 v86 v87 v88 v89 v90 v91 v92 v93 v94 v95 v96 v97 v98 v99 v100 v101 v102 v103 v104 v105 v106 v107 v108 v109 v110 v111 v112 v113 v114 v115 v116 v117 v118 v119 v120 v121 v122 v123 v124 v125 v126 v127 v128 v129 v130 v131 v132 v133 v134 : Value} (N : Nat → Prop) (w W : World) (post : Ending → World → Prop) (S T B P : Nat) (k : Kp) (ev x y z cx cy cz : Value) (aa : Option Addr) (na ca : Nat) (al : List ActP) (sv : List UInt8)
    (HH : Hid (Here N w S T B P aa na ca al W k ev x y z cx cy cz)) (HBP : Hid (B ≠ P ∧ B < T ∧ w.heap.size ≤ B ∧ ¬ N B)) (HwP : Hid (w.heap.size ≤ P)) (Hna : Hid (na = al.length ∧ na ≤ 4)) (HS : Hid (B < S ∧ P < S)) (HAT : Hid (∀ g, (Value.slice aa na ca).ownBlock = some g → ¬ N g ∧ g < T))
    (hsv : sv.length ≤ 4611686018427387904)
    (HP : Hid (∀ e w', OpenPostN w (match goP k sv with | none => none | some (k', rest) => if confOk k'.cf = true then some (fixK k', al ++ (cutOff sv rest ++ fixA k')) else none) e w' → post e w')) :
    Code.wp Try.prog ((Try.f9.body.bind (seqAt 13)).getD .skip) (bodyPost Try.prog Try.f9 post) ⟨#[v0, v1, v2, v3, .pointer (some ⟨B, 0, none⟩), v5, v6, .pointer (some ⟨P, 0, none⟩), .slice aa na ca, str sv, v10, v11, v12, v13, v14, v15, v16, v17, v18, v19, v20, v21, v22, v23, v24, v25, v26, v27, v28, v29, v30, v31, v32, v33, v34, v35, v36, v37, v38, v39, v40, v41, v42, v43, v44, v45, v46, v47, v48, v49, v50, v51, v52, v53, v54, v55, v56, v57, v58, v59, v60, v61, v62, v63, v64, v65, v66, v67, v68, v69, v70, v71, v72, v73, v74, v75, v76, v77, v78, v79, v80, v81, v82, v83, v84, v85, v86, v87, v88, v89, v90, v91, v92, v93, v94, v95, v96, v97, v98, v99, v100, v101, v102, v103, v104, v105, v106, v107, v108, v109, v110, v111, v112, v113, v114, v115, v116, v117, v118, v119, v120, v121, v122, v123, v124, v125, v126, v127, v128, v129, v130, v131, v132, v133, v134], []⟩ W := by
  conv => arg 2; whnf
  have Hcut : Hid (∀ k' rest, goP k sv = some (k', rest) → ∀ e w', OpenPostN w (if confOk k'.cf = true then some (fixK k', (al ++ cutOff sv rest) ++ fixA k') else none) e w' → post e w') := by
    show ∀ k' rest, _ → ∀ e w', _ → _
    intro k' rest hg e w' hh
    refine HP.out e w' ?_
    rw [hg]
    show OpenPostN w (if confOk k'.cf = true then some (fixK k', al ++ (cutOff sv rest ++ fixA k')) else none) e w'
    rw [← List.append_assoc]
    exact hh
  have HNo : Hid (goP k sv = none → ∀ w1, Below w.heap.size w w1 → post (.returned (.tuple #[.agg zeroKept.toArray, .slice none 0 0, .int .i64 16])) (setAll w1 B zeroKept)) := by
    show _ → ∀ w1, _ → _
    intro hg w1 hb
    refine HP.out _ _ ?_
    rw [hg]
    exact ⟨setAll_below hb HBP.out.2.2.1 _, rfl⟩
  go_upto_block 2 with fail
  go_cut [8, 12] from 55 to 79 (fun s8 s12 wx => ∃ (k' : Kp) (rest : List UInt8) (T' : Nat) (ev x y z cx cy cz : Value) (a9 : Option Addr) (n9 c9 : Nat), s8 = .slice a9 n9 c9 ∧ s12 = str rest ∧ Hid (goP k sv = some (k', rest)) ∧ Hid (Here N w S T' B P a9 n9 c9 (al ++ cutOff sv rest) wx k' ev x y z cx cy cz) ∧ Hid (T ≤ T') ∧ Hid (n9 = (al ++ cutOff sv rest).length ∧ n9 ≤ 8) ∧ Hid (∀ g, (Value.slice a9 n9 c9).ownBlock = some g → ¬ N g ∨ T' ≤ g))
  case first =>
    go_wp2_with fail
    go_loopw [8, 12] (fun s8 s12 wr => ∃ (kk : Kp) (rest : List UInt8) (T' : Nat) (ev x y z cx cy cz : Value), s8 = .slice aa na ca ∧ s12 = str rest ∧ Hid (goP k sv = goP kk rest) ∧ Hid (Here N w S T' B P aa na ca al wr kk ev x y z cx cy cz) ∧ Hid (T ≤ T') ∧ Hid (rest.length ≤ sv.length)) (fun _ s12 _ => strLen s12)
    case atStart => exact ⟨k, sv, T, ev, x, y, z, cx, cy, cz, rfl, rfl, rfl, HH.out, Nat.le_refl _, Nat.le_refl _⟩
    case round =>
      obtain ⟨kk, rest, T', ev1, x1, y1, z1, cx1, cy1, cz1, rfl, rfl, hg, hh, hT, hl⟩ := hrel
      by_cases h0 : rest = []
      · subst h0
        have t0 : (([] : List UInt8) != []) = false := rfl
        have hgo : Hid (goP k sv = some (kk, [])) := by show _ = _; rw [hg.out, goP_nil]
        have hco : Hid (al ++ cutOff sv [] = al) := by show _ = _; simp [cutOff]
        have hHe : Hid (Here N w S T' B P aa na ca (al ++ cutOff sv []) wr kk ev1 x1 y1 z1 cx1 cy1 cz1) := by show Here _ _ _ _ _ _ _ _ _ _ _ _ _ _ _ _ _ _ _; rw [hco.out]; exact hh.out
        have hnn : Hid (na = (al ++ cutOff sv []).length ∧ na ≤ 8) := by show _ ∧ _; rw [hco.out]; exact ⟨Hna.out.1, by have := Hna.out; omega⟩
        have hAN : Hid (∀ g, (Value.slice aa na ca).ownBlock = some g → ¬ N g ∨ T' ≤ g) := fun g hg => Or.inl (HAT.out g hg).1
        go_wp2_with fail
        go_meet
        exact ⟨kk, [], T', ev1, x1, y1, z1, cx1, cy1, cz1, aa, na, ca, rfl, rfl, hgo, hHe, hT, hnn, hAN⟩
      · have t0 : rest.isEmpty = false := by cases rest with
          | nil => exact absurd rfl h0
          | cons => rfl
        have hl2 : rest.length ≤ 4611686018427387904 := by have := hl.out; omega
        have HU := Lib.hid (wire_unframe rest wr (by omega))
        have hunf : Hid (∀ res, unframe rest = res → FrameGot wr (unframe rest) = FrameGot wr res) := fun res h => by rw [h]
        have h0' := Lib.hid h0
        cases hu : unframe rest with
        | error zz =>
          have hz := unframe_err hu
          have hgo : Hid (goP k sv = some (kk, rest)) := by show _ = _; rw [hg.out, goP_end h0 hu]
          rw [hu] at HU
          have tz : (zz != 0) = true := bne_iff_ne.2 hz
          have hco : Hid (cutOff sv rest = [⟨6, nLog, [], [], (sv.length : Int) - rest.length⟩, ⟨3, nLog, [], [], 0⟩]) := by show _ = _; unfold cutOff; rw [if_neg h0]
          have hwr : IntKind.i64.wrap ((sv.length : Int) - (rest.length : Int)) = (sv.length : Int) - rest.length := IntWalk.i64_in _ (by omega)
          clear h0 hu hz
          go_wp2_with fail
          refine HU.out.mono ?_
          rintro e w1 ⟨rfl, hb1⟩
          dsimp only [gotB, gotR, gotZ]
          have H1 := Lib.hid (hh.out.below hb1)
          clear hb1
          have hA0 : Below w1.heap.size w1 (w1.alloc (.cells (([⟨6, nLog, [], [], (sv.length : Int) - rest.length⟩, ⟨3, nLog, [], [], 0⟩] : List ActP).flatMap rowA).toArray 45)) := (Below.refl _ _).alloc (Nat.le_refl _) _
          have HA0 := Lib.hid hA0
          have H2 := Lib.hid (H1.out.below hA0)
          have HoA := Lib.hid H2.out.A
          have HsA : Hid (Src Try.prog 5 42 (.slice (some ⟨w1.heap.size, 0, none⟩) 2 2) 2 (([⟨6, nLog, [], [], (sv.length : Int) - rest.length⟩, ⟨3, nLog, [], [], 0⟩] : List ActP).flatMap rowA) (w1.alloc (.cells (([⟨6, nLog, [], [], (sv.length : Int) - rest.length⟩, ⟨3, nLog, [], [], 0⟩] : List ActP).flatMap rowA).toArray 45))) := src_new (w := w1) Try.underlying42 _ 2 rfl (acts_one [⟨6, nLog, [], [], (sv.length : Int) - rest.length⟩, ⟨3, nLog, [], [], 0⟩])
          have HSz := Lib.hid H2.out.S
          clear hA0
          go_wp2_with (at_builtin; refine wpList_append_at rfl _ _ 42 42 rfl S 45 _ 5 64 Try.underlying42 info_act rfl _ _ _ rfl HoA.out _ 2 _ rfl HsA.out (by have := Hna.out; unfold maxLen; omega) (by have := Hna.out; omega) HSz.out ?_)
          intro v9 V ho9 hg9 hb9
          obtain ⟨a9, k9, rfl⟩ := owns_slice ho9
          have hAN0 : ∀ g, (Value.slice aa na ca).ownBlock = some g → ¬ N g ∨ T' ≤ g := fun g hg => Or.inl (HAT.out g hg).1
          have HKV := H2.out.K.grown (Below.refl _ _) HoA.out hg9 HS.out.2 hAN0
          have HBV : V.heap[B]? = some (.cells zeroKept.toArray 33 (0, 0)) := by
            refine (hg9.block B (lt_of_block H2.out.B) (fun e => ?_)).trans H2.out.B
            have := (HoA.out.lt B e.symm).1
            have := HS.out
            omega
          have HWV : Below w.heap.size w V := H2.out.W.trans (below_own HoA.out hg9 (by have := HS.out; have := HBP.out; omega) H2.out.W.size)
          have hlen : (al ++ cutOff sv rest).length = na + 2 := by rw [hco.out, List.length_append, Hna.out.1]; rfl
          have hHe : Hid (Here N w S T' B P a9 (na + 2) k9 (al ++ cutOff sv rest) V kk ev1 x1 y1 z1 cx1 cy1 cz1) := by
            refine ⟨HKV, HBV, ?_, HWV, H2.out.I, Nat.le_trans H2.out.S hg9.size⟩
            rw [hco.out, List.flatMap_append]
            exact ho9
          have hnn : Hid (na + 2 = (al ++ cutOff sv rest).length ∧ na + 2 ≤ 8) := ⟨hlen.symm, by have := Hna.out; omega⟩
          have hAN : Hid (∀ g, (Value.slice a9 (na + 2) k9).ownBlock = some g → ¬ N g ∨ T' ≤ g) := fun g hg => by
            rcases hb9 g hg with h | h
            · exact hAN0 g h
            · exact Or.inr (Nat.le_trans H2.out.K.ts (by rw [World.size_alloc]; exact h))
          clear ho9 hg9 hb9 HKV HBV HWV hlen hAN0
          go_wp2_with fail
          go_meet
          exact ⟨kk, rest, T', ev1, x1, y1, z1, cx1, cy1, cz1, a9, na + 2, k9, rfl, rfl, hgo, hHe, hT, hnn, hAN⟩
        | ok p =>
          obtain ⟨b, t⟩ := p
          have hlt := unframe_lt hu
          rw [hu] at HU
          have HNone : Hid (recP kk b = none → goP k sv = none) := fun h => by rw [hg.out, goP_no h0 hu h]
          have HSome : Hid (∀ k2, recP kk b = some k2 → goP k sv = goP k2 t) := fun k2 h => by rw [hg.out, goP_on h0 hu h]
          have Hlt := Lib.hid hlt
          clear h0 hu hlt
          go_wp2_with fail
          refine HU.out.mono ?_
          rintro e w1 ⟨rfl, hb1⟩
          dsimp only [gotB, gotR, gotZ]
          have H1 := Lib.hid (hh.out.below hb1)
          have HR := Lib.hid (rec_all N T' P kk ev1 x1 y1 z1 cx1 cy1 cz1 b w1 H1.out.K H1.out.I (by have := Hlt.out; omega))
          clear hb1
          go_wp2_with fail
          refine HR.out.mono ?_
          rintro e w2 ⟨hc2, he2⟩
          have hTw : T' ≤ w1.heap.size := H1.out.K.ts
          have HB2 : w2.heap[B]? = some (.cells zeroKept.toArray 33 (0, 0)) := hc2.at H1.out.B (fun e => by have := HBP.out; have := hT.out; rcases e with e | e <;> omega)
          have HW2 : Below w.heap.size w w2 := H1.out.W.trans (hc2.toBelow (fun g hg => by have := HwP.out; have := HBP.out; have := hT.out; rcases hg with hg | hg <;> omega) H1.out.W.size)
          cases hr : recP kk b with
          | none =>
            rw [hr] at he2
            subst he2
            have hno := HNone.out hr
            clear hr hTw hc2
            have h9 := setAll_at HB2 zeroKept rfl
            have H9 := Lib.hid h9
            have Hth : Hid (w2.there B 0 15) := there_ofW HB2
            have Hpost := Lib.hid (HNo.out hno w2 HW2)
            clear h9
            go_upto_region 19 with fail
            refine wp_region_lit ?_
            iterate 3 go_step
            refine wpList_store_mid rfl 33 (.tmp 4) (.tmp 78) rfl B 0 zeroKept.toArray rfl rfl Hth.out size_kept (by simp [Value.oneCell']) ?_
            rw [setCells_eqW]
            show wpList _ _ _ _ _ (setAll w2 B zeroKept)
            generalize setAll w2 B zeroKept = W9 at H9 Hpost ⊢
            go_wp2_with fail
            refine bodyPost_ret (results_three rfl _ W9 B 33 zeroKept.toArray (0, 0) _ rfl H9.out Try.underlying33 rfl size_kept) rfl ?_
            exact Hpost.out
          | some k2 =>
            rw [hr] at he2
            obtain ⟨rfl, T2, ev2, x2, y2, z2, cx2, cy2, cz2, hT2, hk2⟩ := he2
            have hgo := Lib.hid (HSome.out k2 hr)
            have hHe : Hid (Here N w S T2 B P aa na ca al w2 k2 ev2 x2 y2 z2 cx2 cy2 cz2) := by
              refine ⟨hk2, HB2, ?_, HW2, H1.out.I.record hr, Nat.le_trans H1.out.S hc2.size⟩
              exact own_chg H1.out.A hc2 (fun g hg e => by
                have h1 := (H1.out.A.lt g hg).1
                have h2 := HAT.out g hg
                have h3 := HS.out
                have h4 := hT.out
                rcases e with e | e <;> omega)
            have hTT : Hid (T ≤ T2) := Nat.le_trans hT.out hT2
            have hLL : Hid (t.length ≤ sv.length) := by show _ ≤ _; have := Hlt.out; have := hl.out; omega
            clear hr hTw hc2 HB2 HW2 hk2
            go_wp2_with fail
            go_roundw
            case rel => exact ⟨k2, t, T2, ev2, x2, y2, z2, cx2, cy2, cz2, rfl, rfl, hgo, hHe, hTT, hLL⟩
            case measure => rw [strLen_str, strLen_str]; exact Hlt.out.1
  case rest =>
    obtain ⟨U, hU⟩ : ∃ U, U = wc := ⟨_, rfl⟩
    subst hU
    obtain ⟨k', rest, T', ev', x', y', z', cx', cy', cz', a9, n9, c9, rfl, rfl, hg, hh, hT, hn, hA⟩ := hcut
    have g1 := Lib.hid hh.out.K
    have g2 := Lib.hid hh.out.B
    have g3 : Hid (B ≠ P ∧ B < T' ∧ w.heap.size ≤ B ∧ ¬ N B) := by have h := HBP.out; have h2 := hT.out; exact ⟨h.1, by omega, h.2.2⟩
    have g4 := Lib.hid hh.out.A
    have g5 : Hid (B < S ∧ P < S ∧ S ≤ U.heap.size) := ⟨HS.out.1, HS.out.2, hh.out.S⟩
    have g6 := Lib.hid hh.out.I
    have g7 := Lib.hid hh.out.W
    have g8 : Hid (∀ e w', OpenPostN w (if confOk k'.cf = true then some (fixK k', (al ++ cutOff sv rest) ++ fixA k') else none) e w' → post e w') := Hcut.out k' rest hg.out
    clear HP
    iterate 12 (first | done | exact open_up N w U post S T' B P k' ev' x' y' z' cx' cy' cz' a9 n9 c9 (al ++ cutOff sv rest) g1 g2 g3 HwP g4 hn g5 hA g6 g7 g8 | go_step)
end Go.Proofs.Ytjlhlmnoomiblaa
