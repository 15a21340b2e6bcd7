/-
  ConfigExact: the law's walk, whole.
-/
import Derived.Test.YtgdmcbjlfnjhjaaCxd
namespace Go.Proofs.Ytgdmcbjlfnjhjaa
open Go.RowKit Wm Mm
set_option linter.unusedVariables false
set_option linter.unusedSimpArgs false

theorem known_begin : beginP ⟨[1], [], []⟩ [⟨1, 2⟩] = (0, ⟨[1], [1, 2], []⟩) := by rfl
set_option maxHeartbeats 4000000 in
set_option maxRecDepth 100000 in
theorem law_exact (a0 b0 d0 av hav : Value) (c : Conf) (ops : List OpP) (hv : List Int) (w : World) (hc : Config3 w a0 b0 d0 c) (ho : Sl 2 (Plain rowQ) (fun _ => True) w av ops) (hh : Ints w hav hv) (hc1 : c.v.length ≤ 1048576) (hc2 : c.n.length ≤ 1048576) (hc3 : c.l.length ≤ 1048576) (hvl : hv.length ≤ 1048576) (hol : ops.length ≤ 1048576) :
    Calls Try.prog 6 #[.agg #[a0, b0, d0], av, hav] w fun e w' => e = .returned (.bool true) ∧ Below w.heap.size w w' := by
  obtain ⟨post, HP0⟩ := hide (fun (e : Ending) (w' : World) => e = .returned (.bool true) ∧ Below w.heap.size w w')
  rw [HP0.out]
  have hbW : Below w.heap.size w (w.alloc (.cells #[a0, b0, d0] 25)) := (Below.refl _ _).alloc (Nat.le_refl _) _
  have hxW : (w.alloc (.cells #[a0, b0, d0] 25)).heap[w.heap.size]? = some (.cells #[a0, b0, d0] 25 (0, 0)) := hp_at _ _ rfl
  obtain ⟨W0, hW0⟩ := hide (w.alloc (.cells #[a0, b0, d0] 25))
  rw [hW0.out] at hbW hxW
  have HC : Hid (∀ w', Below W0.heap.size W0 w' → w'.heap[w.heap.size]? = some (.cells #[a0, b0, d0] 25 (0, 0)) ∧ Config3 w' a0 b0 d0 c ∧ Sl 2 (Plain rowQ) (fun _ => True) w' av ops ∧ Ints w' hav hv) := fun w' h =>
    ⟨(h.block _ (lt_of_block hxW)).trans hxW, hc.mono (hbW.trans (h.mono hbW.size)), ho.frame (Plain.good _) (Agree.below (hbW.trans (h.mono hbW.size))), hh.mono (hbW.trans (h.mono hbW.size))⟩
  have Hp : Hid (∀ w', Below W0.heap.size W0 w' → post (.returned (.bool true)) w') := by
    show ∀ w', _ → _
    intro w' h; rw [← HP0.out]; exact ⟨rfl, hbW.trans (h.mono hbW.size)⟩
  obtain ⟨B, hB⟩ := hide w.heap.size
  rw [hB.out] at HC
  have x0 := (HC.out _ (Below.refl _ _)).1
  have p0 : W0.cell? ⟨B, 0, none⟩ = some a0 := cell_n x0 0 rfl
  have p1 : W0.cell? ⟨B, 1, none⟩ = some b0 := cell_n x0 1 rfl
  have p2 : W0.cell? ⟨B, 2, none⟩ = some d0 := cell_n x0 2 rfl
  have K := Lib.hid (held_conf a0 b0 d0 c W0 (HC.out _ (Below.refl _ _)).2.1 (by omega) (by omega) (by omega))
  clear hc ho hh hbW hxW x0
  go_enter Try.func6, Try.ntmps6
  go_upto_region 1 with fail
  rw [hW0.out, hB.out]
  go_wp2_with fail
  refine K.out.mono ?_
  rintro e w1 ⟨xa, xb, xd, rfl, hcx, hb1⟩
  obtain ⟨x1, y1, rfl⟩ := hcx.v.len
  obtain ⟨x2, y2, rfl⟩ := hcx.n.len
  obtain ⟨x3, y3, rfl⟩ := hcx.l.len
  have ba : Below w1.heap.size w1 (w1.alloc (.cells #[(.slice x1 c.v.length y1), (.slice x2 c.n.length y2), (.slice x3 c.l.length y3)] 25)) := (Below.refl _ _).alloc (Nat.le_refl _) _
  have hxa : (w1.alloc (.cells #[(.slice x1 c.v.length y1), (.slice x2 c.n.length y2), (.slice x3 c.l.length y3)] 25)).heap[w1.heap.size]? = some (.cells #[(.slice x1 c.v.length y1), (.slice x2 c.n.length y2), (.slice x3 c.l.length y3)] 25 (0, 0)) := hp_at _ _ rfl
  obtain ⟨V1, hV1⟩ := hide (w1.alloc (.cells #[(.slice x1 c.v.length y1), (.slice x2 c.n.length y2), (.slice x3 c.l.length y3)] 25))
  rw [hV1.out] at ba hxa
  have H1 : Hid (Below W0.heap.size W0 V1) := hb1.trans (ba.mono hb1.size)
  have HCx : Hid (Config3H 0 V1 (.slice x1 c.v.length y1) (.slice x2 c.n.length y2) (.slice x3 c.l.length y3) c) := (hcx.base (Nat.zero_le _)).below ba
  obtain ⟨D, hD⟩ := hide w1.heap.size
  rw [hD.out] at hxa
  have HxD := Lib.hid hxa
  have K := Lib.hid (held_ints hav hv V1 (HC.out _ H1.out).2.2.2 (by omega))
  clear hcx hb1 ba hxa p0 p1 p2
  try dsimp only
  go_upto_region 2 with fail
  rw [hV1.out, hD.out]
  go_wp2_with fail
  refine K.out.mono ?_
  rintro e w2 ⟨hx, rfl, hhx, hb2⟩
  obtain ⟨hxp, hxk, rfl⟩ := hhx.len
  have H2 : Hid (Below V1.heap.size V1 w2) := hb2
  have HH : Hid (HeldI 0 w2 (.slice hxp hv.length hxk) hv) := hhx.base (Nat.zero_le _)
  have hbI : Below w2.heap.size w2 (w2.alloc (.cells #[.int .i64 1] 3)) := (Below.refl _ _).alloc (Nat.le_refl _) _
  have hxI : (w2.alloc (.cells #[.int .i64 1] 3)).heap[w2.heap.size]? = some (.cells #[.int .i64 1] 3 (0, 0)) := hp_at _ _ rfl
  obtain ⟨V2, hV2⟩ := hide (w2.alloc (.cells #[.int .i64 1] 3))
  rw [hV2.out] at hbI hxI
  have hbO : Below V2.heap.size V2 (V2.alloc (.cells #[.int .i64 1, .int .i64 2] 44)) := (Below.refl _ _).alloc (Nat.le_refl _) _
  have hxO : (V2.alloc (.cells #[.int .i64 1, .int .i64 2] 44)).heap[V2.heap.size]? = some (.cells #[.int .i64 1, .int .i64 2] 44 (0, 0)) := hp_at _ _ rfl
  obtain ⟨V3, hV3⟩ := hide (V2.alloc (.cells #[.int .i64 1, .int .i64 2] 44))
  rw [hV3.out] at hbO hxO
  have s2 : V2.heap.size = w2.heap.size + 1 := by rw [← hV2.out]; simp
  rw [s2] at hxO
  have hyI := (hbO.block _ (lt_of_block hxI)).trans hxI
  have H3 : Hid (Below w2.heap.size w2 V3) := hbI.trans (hbO.mono hbI.size)
  have hI : Ints V3 (.slice (some ⟨w2.heap.size, 0, none⟩) 1 1) [1] := by
    refine ⟨_, _, rfl, fun _ => ⟨w2.heap.size, 0, rfl, fun j x hj => ?_⟩, by show 1 ≤ maxLen; unfold maxLen; omega⟩
    match j, hj with
    | 0, hj => (have : x = 1 := by simpa using hj.symm); subst this; exact cell_n hyI 0 rfl
    | j + 1, hj => simp at hj
  have hO : OpsW V3 (.slice (some ⟨w2.heap.size + 1, 0, none⟩) 1 1) [⟨1, 2⟩] := by
    refine ⟨_, _, rfl, fun _ => ⟨w2.heap.size + 1, 0, rfl, fun j o hj => ?_⟩, by show 1 ≤ maxLen; unfold maxLen; omega⟩
    match j, hj with
    | 0, hj => (have : o = ⟨1, 2⟩ := by simpa using hj.symm); subst this; exact ⟨cell_n hxO 0 rfl, cell_n hxO 1 rfl⟩
    | j + 1, hj => simp at hj
  have hN : Ints V3 (.slice none 0 0) [] := (IntsF.nil 0 _).ints
  have K := begin_own _ _ _ _ ⟨[1], [], []⟩ [⟨1, 2⟩] V3 ⟨hI, hN, hN⟩ hO
  rw [known_begin] at K
  have K := Lib.hid K
  clear hhx hb2 hbI hxI hbO hxO hyI hI hO hN s2
  try dsimp only
  go_upto_region 3 with fail
  go_wp2_with fail
  rw [hV2.out, hV3.out]
  refine K.out.mono ?_
  rintro e w4 ⟨fa, fb, fd, rfl, hcf, hb4⟩
  obtain ⟨f1, m1, rfl⟩ : ∃ p k, fa = .slice p 1 k := hcf.v.len
  obtain ⟨f2, m2, rfl⟩ : ∃ p k, fb = .slice p 2 k := hcf.n.len
  obtain ⟨f3, m3, rfl⟩ : ∃ p k, fd = .slice p 0 k := hcf.l.len
  have ba : Below w4.heap.size w4 (w4.alloc (.cells #[.slice f1 1 m1, .slice f2 2 m2, .slice f3 0 m3] 25)) := (Below.refl _ _).alloc (Nat.le_refl _) _
  have hxk : (w4.alloc (.cells #[.slice f1 1 m1, .slice f2 2 m2, .slice f3 0 m3] 25)).heap[w4.heap.size]? = some (.cells #[.slice f1 1 m1, .slice f2 2 m2, .slice f3 0 m3] 25 (0, 0)) := hp_at _ _ rfl
  obtain ⟨V4, hV4⟩ := hide (w4.alloc (.cells #[.slice f1 1 m1, .slice f2 2 m2, .slice f3 0 m3] 25))
  rw [hV4.out] at ba hxk
  obtain ⟨Q, hQ⟩ := hide w4.heap.size
  rw [hQ.out] at hxk
  have H34 : Below V3.heap.size V3 V4 := by
    have h1 : Below V3.heap.size V3 w4 := hb4
    exact h1.trans (ba.mono h1.size)
  have H24 : Hid (Below w2.heap.size w2 V4) := H3.out.trans (H34.mono H3.out.size)
  have H14 : Hid (Below V1.heap.size V1 V4) := H2.out.trans (H24.out.mono H2.out.size)
  have H04 : Hid (Below W0.heap.size W0 V4) := H1.out.trans (H14.out.mono H1.out.size)
  have c1 : V4.cell? ⟨Q, 1, none⟩ = some (.slice f2 2 m2) := cell_n hxk 1 rfl
  have KO := Lib.hid (opsOf_law av ops (fun _ => True) V4 (HC.out _ H04.out).2.2.1 (by omega))
  clear hcf hb4 ba hxk H34
  try dsimp only
  go_upto_region 4 with fail
  rw [hV4.out, hQ.out]
  go_wp2_with fail
  refine KO.out.mono ?_
  rintro e w5 ⟨ov, rfl, hov, hb5⟩
  have H05 : Hid (Below W0.heap.size W0 w5) := H04.out.trans (hb5.mono H04.out.size)
  have h15 : Below V1.heap.size V1 w5 := H14.out.trans (hb5.mono H14.out.size)
  have h25 : Below w2.heap.size w2 w5 := H24.out.trans (hb5.mono H24.out.size)
  have hcf5 := HC.out _ H05.out
  have HX5 : Cfx B D 0 (fun _ => True) a0 b0 d0 (.slice x1 c.v.length y1) (.slice x2 c.n.length y2) (.slice x3 c.l.length y3) ov av (.slice hxp hv.length hxk) hav c ops hv w5 := {
    b := hcf5.1
    cb := hcf5.2.1
    d := (h15.block D (lt_of_block HxD.out)).trans HxD.out
    cd := HCx.out.below h15
    o := by
      obtain ⟨a, k, h1, h2⟩ := hov
      exact ⟨a, k, h1, own_base h2 (Nat.zero_le _)⟩
    oa := hcf5.2.2.1
    h := HH.out.below h25
    ha := hcf5.2.2.2 }
  have HX : Hid (∀ w', Below w5.heap.size w5 w' → Cfx B D 0 (fun _ => True) a0 b0 d0 (.slice x1 c.v.length y1) (.slice x2 c.n.length y2) (.slice x3 c.l.length y3) ov av (.slice hxp hv.length hxk) hav c ops hv w') := fun w' h => HX5.below h
  have HP : Hid (∀ w', Below w5.heap.size w5 w' → post (.returned (.bool true)) w') := fun w' h => Hp.out w' (H05.out.trans (h.mono H05.out.size))
  clear h15 h25 hcf5 HX5 hov hb5 c1
  try dsimp only
  iterate 12 (first | done | exact exact_begin B D 0 (fun _ => True) a0 b0 d0 (.slice x1 c.v.length y1) (.slice x2 c.n.length y2) (.slice x3 c.l.length y3) ov av (.slice hxp hv.length hxk) hav c ops hv hc1 hc2 hc3 hvl hol w5.heap.size w5 (Nat.le_refl _) post HP HX | go_step)
end Go.Proofs.Ytgdmcbjlfnjhjaa
