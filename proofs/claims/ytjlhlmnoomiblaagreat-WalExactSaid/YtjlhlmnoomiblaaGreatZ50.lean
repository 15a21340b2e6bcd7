/-
  The law on files: are two known states the same, two rows of acts, may this be kept?
-/
import Derived.Test.YtjlhlmnoomiblaaGreatZ49
import Derived.Test.YtjlhlmnoomiblaaGreatZ47
import Derived.Test.YtjlhlmnoomiblaaGreatZ06
namespace Go.Proofs.YtjlhlmnoomiblaaGreat
open Go.RowKit Wm Mm Lg Fl
set_option linter.unusedVariables false
set_option linter.unusedSimpArgs false

theorem sameConf_reflW (c : Conf) : sameConf c c = true := by simp [sameConf]
set_option maxHeartbeats 2000000 in
theorem ref_sameSnapT (i t : Int) (x y z x' y' z' : Value) (c : Conf) (d : List UInt8) (w : World) (hc : Config3 w x y z c) (hc' : Config3 w x' y' z' c) :
    Calls Tryz.prog 37 #[vSnap i t x y z d, vSnap i t x' y' z' d] w fun e w' => e = .returned (.bool true) ∧ Below w.heap.size w w' := by
  obtain ⟨a1, ap1, rfl, _⟩ := len_of_Ints hc.v
  obtain ⟨a2, ap2, rfl, _⟩ := len_of_Ints hc.n
  obtain ⟨a3, ap3, rfl, _⟩ := len_of_Ints hc.l
  obtain ⟨b1, bp1, rfl, _⟩ := len_of_Ints hc'.v
  obtain ⟨b2, bp2, rfl, _⟩ := len_of_Ints hc'.n
  obtain ⟨b3, bp3, rfl, _⟩ := len_of_Ints hc'.l
  obtain ⟨W, hW⟩ := hide ((w.alloc (.cells #[.int .i64 i, .int .i64 t, .slice a1 c.v.length ap1, .slice a2 c.n.length ap2, .slice a3 c.l.length ap3, str d] 29)).alloc (.cells #[.int .i64 i, .int .i64 t, .slice b1 c.v.length bp1, .slice b2 c.n.length bp2, .slice b3 c.l.length bp3, str d] 29))
  obtain ⟨B, hB⟩ := hide w.heap.size
  have hb0 : Below w.heap.size w W := by rw [← hW.out]; exact ((Below.refl _ _).alloc (Nat.le_refl _) _).alloc (by simp) _
  have hx : W.heap[B]? = some (.cells #[.int .i64 i, .int .i64 t, .slice a1 c.v.length ap1, .slice a2 c.n.length ap2, .slice a3 c.l.length ap3, str d] 29 (0, 0)) := by rw [← hW.out, ← hB.out]; exact (hp_past _ _ (by simp)).trans (hp_at _ _ rfl)
  have hy : W.heap[B + 1]? = some (.cells #[.int .i64 i, .int .i64 t, .slice b1 c.v.length bp1, .slice b2 c.n.length bp2, .slice b3 c.l.length bp3, str d] 29 (0, 0)) := by rw [← hW.out, ← hB.out]; exact hp_at _ _ (by simp)
  have HI := Lib.hid (ref_sameConfig _ _ _ _ _ _ c c W (hc.mono hb0) (hc'.mono hb0))
  rw [sameConf_reflW c] at HI
  have Hb0 := Lib.hid hb0
  have HX := Lib.hid (And.intro hx hy)
  have p0 := cell_n hx 0 (v := .int .i64 i) rfl
  have p1 := cell_n hx 1 (v := .int .i64 t) rfl
  have p2 := cell_n hx 2 (v := .slice a1 c.v.length ap1) rfl
  have p3 := cell_n hx 3 (v := .slice a2 c.n.length ap2) rfl
  have p4 := cell_n hx 4 (v := .slice a3 c.l.length ap3) rfl
  have p5 := cell_n hx 5 (v := str d) rfl
  have q0 := cell_n hy 0 (v := .int .i64 i) rfl
  have q1 := cell_n hy 1 (v := .int .i64 t) rfl
  have q2 := cell_n hy 2 (v := .slice b1 c.v.length bp1) rfl
  have q3 := cell_n hy 3 (v := .slice b2 c.n.length bp2) rfl
  have q4 := cell_n hy 4 (v := .slice b3 c.l.length bp3) rfl
  have q5 := cell_n hy 5 (v := str d) rfl
  clear hb0 hx hy hc hc'
  go_enter Tryz.func37, Tryz.ntmps37
  go_upto_region 1 with fail
  rw [hW.out, hB.out]
  go_wp2_with fail
  refine HI.out.mono ?_
  rintro e w1 ⟨rfl, hb⟩
  have Hb := Lib.hid (Hb0.out.trans (hb.mono Hb0.out.size))
  have hx := (hb.block _ (lt_of_block HX.out.1)).trans HX.out.1
  have hy := (hb.block _ (lt_of_block HX.out.2)).trans HX.out.2
  clear hb p0 p1 p2 p3 p4 p5 q0 q1 q2 q3 q4 q5
  have p0 := cell_n hx 0 (v := .int .i64 i) rfl
  have p1 := cell_n hx 1 (v := .int .i64 t) rfl
  have p5 := cell_n hx 5 (v := str d) rfl
  have q0 := cell_n hy 0 (v := .int .i64 i) rfl
  have q1 := cell_n hy 1 (v := .int .i64 t) rfl
  have q5 := cell_n hy 5 (v := str d) rfl
  clear hx hy
  dsimp only
  go_wp2_with fail
  go_ret
  exact ⟨rfl, Hb.out⟩
set_option maxHeartbeats 4000000 in
set_option maxRecDepth 100000 in
theorem same_kept (k : Kp) (ev x y z cx cy cz ev' x' y' z' cx' cy' cz' : Value) (F G : Nat → Prop) (w : World) (hE : Ents F w ev k.es) (hE' : Ents G w ev' k.es) (hc : Config3 w x y z k.sc) (hc' : Config3 w x' y' z' k.sc) (hcf : Config3 w cx cy cz k.cf) (hcf' : Config3 w cx' cy' cz' k.cf) :
    Calls Tryz.prog 10 #[.agg (cellsK k ev x y z cx cy cz), .agg (cellsK k ev' x' y' z' cx' cy' cz')] w fun e w' => e = .returned (.bool true) ∧ Below w.heap.size w w' := by
  obtain ⟨a1, ap1, rfl, _⟩ := len_of_Ints hc.v
  obtain ⟨a2, ap2, rfl, _⟩ := len_of_Ints hc.n
  obtain ⟨a3, ap3, rfl, _⟩ := len_of_Ints hc.l
  obtain ⟨a4, ap4, rfl, _⟩ := len_of_Ints hcf.v
  obtain ⟨a5, ap5, rfl, _⟩ := len_of_Ints hcf.n
  obtain ⟨a6, ap6, rfl, _⟩ := len_of_Ints hcf.l
  obtain ⟨ae, af, rfl, _, _⟩ := hE.slice
  obtain ⟨b1, bp1, rfl, _⟩ := len_of_Ints hc'.v
  obtain ⟨b2, bp2, rfl, _⟩ := len_of_Ints hc'.n
  obtain ⟨b3, bp3, rfl, _⟩ := len_of_Ints hc'.l
  obtain ⟨b4, bp4, rfl, _⟩ := len_of_Ints hcf'.v
  obtain ⟨b5, bp5, rfl, _⟩ := len_of_Ints hcf'.n
  obtain ⟨b6, bp6, rfl, _⟩ := len_of_Ints hcf'.l
  obtain ⟨be, bf, rfl, _, _⟩ := hE'.slice
  obtain ⟨W, hW⟩ := hide ((w.alloc (.cells #[.int .i64 k.t, .int .i64 k.v, .int .i64 k.c, .int .i64 k.base, .int .i64 k.bt, .slice ae k.es.length af, .int .i64 k.si, .int .i64 k.st, .slice a1 k.sc.v.length ap1, .slice a2 k.sc.n.length ap2, .slice a3 k.sc.l.length ap3, str k.sd, .slice a4 k.cf.v.length ap4, .slice a5 k.cf.n.length ap5, .slice a6 k.cf.l.length ap6] 43)).alloc (.cells #[.int .i64 k.t, .int .i64 k.v, .int .i64 k.c, .int .i64 k.base, .int .i64 k.bt, .slice be k.es.length bf, .int .i64 k.si, .int .i64 k.st, .slice b1 k.sc.v.length bp1, .slice b2 k.sc.n.length bp2, .slice b3 k.sc.l.length bp3, str k.sd, .slice b4 k.cf.v.length bp4, .slice b5 k.cf.n.length bp5, .slice b6 k.cf.l.length bp6] 43))
  obtain ⟨B, hB⟩ := hide w.heap.size
  have hb0 : Below w.heap.size w W := by rw [← hW.out]; exact ((Below.refl _ _).alloc (Nat.le_refl _) _).alloc (by simp) _
  have hx : W.heap[B]? = some (.cells #[.int .i64 k.t, .int .i64 k.v, .int .i64 k.c, .int .i64 k.base, .int .i64 k.bt, .slice ae k.es.length af, .int .i64 k.si, .int .i64 k.st, .slice a1 k.sc.v.length ap1, .slice a2 k.sc.n.length ap2, .slice a3 k.sc.l.length ap3, str k.sd, .slice a4 k.cf.v.length ap4, .slice a5 k.cf.n.length ap5, .slice a6 k.cf.l.length ap6] 43 (0, 0)) := by rw [← hW.out, ← hB.out]; exact (hp_past _ _ (by simp)).trans (hp_at _ _ rfl)
  have hy : W.heap[B + 1]? = some (.cells #[.int .i64 k.t, .int .i64 k.v, .int .i64 k.c, .int .i64 k.base, .int .i64 k.bt, .slice be k.es.length bf, .int .i64 k.si, .int .i64 k.st, .slice b1 k.sc.v.length bp1, .slice b2 k.sc.n.length bp2, .slice b3 k.sc.l.length bp3, str k.sd, .slice b4 k.cf.v.length bp4, .slice b5 k.cf.n.length bp5, .slice b6 k.cf.l.length bp6] 43 (0, 0)) := by rw [← hW.out, ← hB.out]; exact hp_at _ _ (by simp)
  have HL := Lib.hid (ref_sameLog k.base k.bt _ _ k.es F G W (hE.frame (Plain.good _) (Agree.below hb0)) (hE'.frame (Plain.good _) (Agree.below hb0)))
  have HS : Hid (∀ w1, Below W.heap.size W w1 → _) := fun w1 hb => ref_sameSnapT k.si k.st _ _ _ _ _ _ k.sc k.sd w1 (hc.mono (hb0.trans (hb.mono hb0.size))) (hc'.mono (hb0.trans (hb.mono hb0.size)))
  have HC : Hid (∀ w1, Below W.heap.size W w1 → _) := fun w1 hb => ref_sameConfig _ _ _ _ _ _ k.cf k.cf w1 (hcf.mono (hb0.trans (hb.mono hb0.size))) (hcf'.mono (hb0.trans (hb.mono hb0.size)))
  rw [sameConf_reflW k.cf] at HC
  have Hb0 := Lib.hid hb0
  have HX := Lib.hid (And.intro hx hy)
  have p3 := cell_n hx 3 (v := .int .i64 k.base) rfl
  have p4 := cell_n hx 4 (v := .int .i64 k.bt) rfl
  have p5 := cell_n hx 5 (v := .slice ae k.es.length af) rfl
  have q3 := cell_n hy 3 (v := .int .i64 k.base) rfl
  have q4 := cell_n hy 4 (v := .int .i64 k.bt) rfl
  have q5 := cell_n hy 5 (v := .slice be k.es.length bf) rfl
  clear hb0 hx hy hc hc' hcf hcf' hE hE'
  go_enter Tryz.func10, Tryz.ntmps10
  go_upto_region 1 with fail
  rw [hW.out, hB.out]
  go_wp2_with fail
  refine HL.out.mono ?_
  rintro e w1 ⟨rfl, hb1⟩
  have H1 := Lib.hid hb1
  have hx := (H1.out.block _ (lt_of_block HX.out.1)).trans HX.out.1
  have hy := (H1.out.block _ (lt_of_block HX.out.2)).trans HX.out.2
  clear hb1 p3 p4 p5 q3 q4 q5
  have p6 := cell_n hx 6 (v := .int .i64 k.si) rfl
  have p7 := cell_n hx 7 (v := .int .i64 k.st) rfl
  have p8 := cell_n hx 8 (v := .slice a1 k.sc.v.length ap1) rfl
  have p9 := cell_n hx 9 (v := .slice a2 k.sc.n.length ap2) rfl
  have p10 := cell_n hx 10 (v := .slice a3 k.sc.l.length ap3) rfl
  have p11 := cell_n hx 11 (v := str k.sd) rfl
  have q6 := cell_n hy 6 (v := .int .i64 k.si) rfl
  have q7 := cell_n hy 7 (v := .int .i64 k.st) rfl
  have q8 := cell_n hy 8 (v := .slice b1 k.sc.v.length bp1) rfl
  have q9 := cell_n hy 9 (v := .slice b2 k.sc.n.length bp2) rfl
  have q10 := cell_n hy 10 (v := .slice b3 k.sc.l.length bp3) rfl
  have q11 := cell_n hy 11 (v := str k.sd) rfl
  clear hx hy
  dsimp only
  go_wp2_with fail
  refine (HS.out w1 H1.out).mono ?_
  rintro e w2 ⟨rfl, hb2⟩
  have H2 := Lib.hid (H1.out.trans (hb2.mono H1.out.size))
  have hx := (H2.out.block _ (lt_of_block HX.out.1)).trans HX.out.1
  have hy := (H2.out.block _ (lt_of_block HX.out.2)).trans HX.out.2
  clear hb2 p6 p7 p8 p9 p10 p11 q6 q7 q8 q9 q10 q11
  have p12 := cell_n hx 12 (v := .slice a4 k.cf.v.length ap4) rfl
  have p13 := cell_n hx 13 (v := .slice a5 k.cf.n.length ap5) rfl
  have p14 := cell_n hx 14 (v := .slice a6 k.cf.l.length ap6) rfl
  have q12 := cell_n hy 12 (v := .slice b4 k.cf.v.length bp4) rfl
  have q13 := cell_n hy 13 (v := .slice b5 k.cf.n.length bp5) rfl
  have q14 := cell_n hy 14 (v := .slice b6 k.cf.l.length bp6) rfl
  clear hx hy
  dsimp only
  go_wp2_with fail
  refine (HC.out w2 H2.out).mono ?_
  rintro e w3 ⟨rfl, hb3⟩
  have H3 := Lib.hid (H2.out.trans (hb3.mono H2.out.size))
  have hx := (H3.out.block _ (lt_of_block HX.out.1)).trans HX.out.1
  have hy := (H3.out.block _ (lt_of_block HX.out.2)).trans HX.out.2
  clear hb3 p12 p13 p14 q12 q13 q14
  have p0 := cell_n hx 0 (v := .int .i64 k.t) rfl
  have p1 := cell_n hx 1 (v := .int .i64 k.v) rfl
  have p2 := cell_n hx 2 (v := .int .i64 k.c) rfl
  have q0 := cell_n hy 0 (v := .int .i64 k.t) rfl
  have q1 := cell_n hy 1 (v := .int .i64 k.v) rfl
  have q2 := cell_n hy 2 (v := .int .i64 k.c) rfl
  clear hx hy
  dsimp only
  go_wp2_with fail
  go_ret
  exact ⟨rfl, Hb0.out.trans (H3.out.mono Hb0.out.size)⟩
theorem Sl.fiveAct {F : Nat → Prop} {w : World} {a : Option Addr} {n c : Nat} {l : List ActP} (h : Acs F w (.slice a n c) l) {k : Nat} (hk : k < l.length) :
    ∃ b off, a = some ⟨b, off, none⟩ ∧ w.cell? ⟨b, off + k * 5, none⟩ = some (.int .i64 l[k].what) ∧ w.cell? ⟨b, off + k * 5 + 1, none⟩ = some (str l[k].nam) ∧ w.cell? ⟨b, off + k * 5 + 2, none⟩ = some (str l[k].to) ∧ w.cell? ⟨b, off + k * 5 + 3, none⟩ = some (str l[k].dat) ∧ w.cell? ⟨b, off + k * 5 + 4, none⟩ = some (.int .i64 l[k].size) := by
  obtain ⟨b, off, us, e, _, _, hus, hcs⟩ := h.at hk
  have hus' : us = rowA l[k] := hus
  subst hus'
  exact ⟨b, off, e, hcs 0 _ rfl, hcs 1 _ rfl, hcs 2 _ rfl, hcs 3 _ rfl, hcs 4 _ rfl⟩
set_option maxHeartbeats 1000000 in
theorem same_acts (v v2 : Value) (l : List ActP) (F G : Nat → Prop) (w : World) (h : Acs F w v l) (h2 : Acs G w v2 l) :
    Calls Tryz.prog 11 #[v, v2] w fun e w' => e = .returned (.bool true) ∧ Below w.heap.size w w' := by
  obtain ⟨ao, cap, rfl, hcap, hmax⟩ := h.slice
  obtain ⟨ao2, cap2, rfl, hcap2, _⟩ := h2.slice
  have HF : Hid (∀ w', Below w.heap.size w w' → Acs F w' (.slice ao l.length cap) l) := fun w' hb => h.frame (Plain.good _) (Agree.below hb)
  have HG : Hid (∀ w', Below w.heap.size w w' → Acs G w' (.slice ao2 l.length cap2) l) := fun w' hb => h2.frame (Plain.good _) (Agree.below hb)
  clear h h2
  go_enter Tryz.func11, Tryz.ntmps11
  go_wp2_with fail
  go_loopw [5] (fun i wr => ∃ k : Nat, i = .int .i64 k ∧ k ≤ l.length ∧ Hid (Below w.heap.size w wr)) (fun i _ => l.length - (intOf i).toNat)
  case atStart => exact ⟨0, rfl, Nat.zero_le _, Below.refl _ _⟩
  case round =>
    obtain ⟨k, rfl, hkl, hb⟩ := hrel
    by_cases hlt : k < l.length
    · obtain ⟨b, off, rfl, c0, c1, c2, c3, c4⟩ := Sl.fiveAct (HF.out _ hb.out) hlt
      obtain ⟨b', off', rfl, d0, d1, d2, d3, d4⟩ := Sl.fiveAct (HG.out _ hb.out) hlt
      obtain ⟨y, hy⟩ := hide l[k]
      rw [hy.out] at c0 c1 c2 c3 c4 d0 d1 d2 d3 d4
      go_wp2_with fail
      go_region
      have hb3 : Hid (Below w.heap.size w wr.drew) := hb.out.drew
      go_wp2_with fail
      go_roundw
      case rel => exact ⟨k + 1, by go_num, by omega, hb3⟩
      case measure => simp [intOf]; omega
    · obtain rfl : k = l.length := by omega
      go_wp2_with fail
      go_ret
      exact ⟨rfl, hb.out⟩
/-- may this be kept? -/
def mayB (t v c : Int) (es : List EntP) (si st : Int) (sc : Conf) (sd : List UInt8) : Bool :=
  es.all entOk && ((isSnap si st sc sd || decide (si ≤ 0)) && (decide (0 ≤ t) && (decide (0 ≤ v) && (decide (0 ≤ c) && (decide (t ≤ 1099511627775) && (decide (v ≤ 1099511627775) && decide (c ≤ 1099511627775)))))))
set_option maxHeartbeats 4000000 in
set_option maxRecDepth 100000 in
theorem may_keep (t v c : Int) (kept : Bool) (ev : Value) (es : List EntP) (si st : Int) (x y z : Value) (sc : Conf) (sd : List UInt8) (am1 am2 am3 am4 : Option Addr) (n1 n2 n3 n4 k1 k2 k3 k4 : Nat) (F : Nat → Prop) (w : World) (hE : Ents F w ev es) (hc : Config3 w x y z sc) (hn : es.length ≤ 3518437208883) :
    Calls Tryz.prog 12 #[.agg (cellsR t v c kept ev si st x y z sd (.slice am1 n1 k1) (.slice am2 n2 k2) (.slice am3 n3 k3) (.slice am4 n4 k4))] w fun e w' => e = .returned (.bool (mayB t v c es si st sc sd)) ∧ Below w.heap.size w w' := by
  obtain ⟨post, HP⟩ := hide (fun (e : Ending) (w' : World) => e = .returned (.bool (mayB t v c es si st sc sd)) ∧ Below w.heap.size w w')
  rw [HP.out]
  obtain ⟨a1, ap1, rfl, _⟩ := len_of_Ints hc.v
  obtain ⟨a2, ap2, rfl, _⟩ := len_of_Ints hc.n
  obtain ⟨a3, ap3, rfl, _⟩ := len_of_Ints hc.l
  obtain ⟨ae, af, rfl, hcap, hmax⟩ := hE.slice
  obtain ⟨W, hW⟩ := hide (w.alloc (.cells #[.int .i64 t, .int .i64 v, .int .i64 c, .bool kept, .slice ae es.length af, .int .i64 si, .int .i64 st, .slice a1 sc.v.length ap1, .slice a2 sc.n.length ap2, .slice a3 sc.l.length ap3, str sd, .slice am1 n1 k1, .slice am2 n2 k2, .slice am3 n3 k3, .slice am4 n4 k4] 33))
  obtain ⟨B, hB⟩ := hide w.heap.size
  have hb0 : Below w.heap.size w W := by rw [← hW.out]; exact (Below.refl _ _).alloc (Nat.le_refl _) _
  have hx : W.heap[B]? = some (.cells #[.int .i64 t, .int .i64 v, .int .i64 c, .bool kept, .slice ae es.length af, .int .i64 si, .int .i64 st, .slice a1 sc.v.length ap1, .slice a2 sc.n.length ap2, .slice a3 sc.l.length ap3, str sd, .slice am1 n1 k1, .slice am2 n2 k2, .slice am3 n3 k3, .slice am4 n4 k4] 33 (0, 0)) := by rw [← hW.out, ← hB.out]; exact hp_at _ _ rfl
  have HE : Hid (∀ w', Below W.heap.size W w' → Ents F w' (.slice ae es.length af) es) := fun w' hb => hE.frame (Plain.good _) (Agree.below (hb0.trans (hb.mono hb0.size)))
  have HS : Hid (∀ w1, Below W.heap.size W w1 → _) := fun w1 hb => ref_isSnapshot si st _ _ _ sc sd w1 (hc.mono (hb0.trans (hb.mono hb0.size)))
  have Hpo : Hid (∀ q w', Below W.heap.size W w' → mayB t v c es si st sc sd = q → post (.returned (.bool q)) w') := by
    show ∀ q w', _ → _ → _
    intro q w' hw hq
    rw [← HP.out, ← hq]
    exact ⟨rfl, hb0.trans (hw.mono hb0.size)⟩
  have Hno : Hid (∀ j (hj : j < es.length), entOk es[j] = false → mayB t v c es si st sc sd = false) := by
    show ∀ j (hj : j < es.length), _ → _
    intro j hj h
    have : es.all entOk = false := by
      rw [List.all_eq_false]
      exact ⟨es[j], List.getElem_mem hj, by rw [h]; simp⟩
    rw [mayB, this, Bool.false_and]
  have HX := Lib.hid hx
  have Hn := Lib.hid hn
  clear hb0 hx hE hc hn hmax
  go_enter Tryz.func12, Tryz.ntmps12
  go_upto_region 1 with fail
  rw [hW.out, hB.out]
  go_wp2_with fail
  go_loopw [3] (fun i wr => ∃ k : Nat, i = .int .i64 k ∧ k ≤ es.length ∧ Hid (∀ j (hj : j < k) (hj2 : j < es.length), entOk es[j] = true) ∧ Hid (Below W.heap.size W wr)) (fun i _ => es.length - (intOf i).toNat)
  case atStart => exact ⟨0, rfl, Nat.zero_le _, fun j hj _ => absurd hj (Nat.not_lt_zero _), Below.refl _ _⟩
  case round =>
    obtain ⟨k, rfl, hkl, hok, hb⟩ := hrel
    have hx := (hb.out.block _ (lt_of_block HX.out)).trans HX.out
    have p4 := cell_n hx 4 (v := .slice ae es.length af) rfl
    by_cases hlt : k < es.length
    · obtain ⟨b, off, rfl, c0, c1, c2, c3⟩ := Sl.fourE (HE.out wr hb.out) hlt
      have hnk := Hno.out k hlt
      have Hnk : Hid (∀ q, entOk es[k] = q → (q = false → mayB t v c es si st sc sd = false) ∧ (q = true → ∀ j (hj : j < k + 1) (hj2 : j < es.length), entOk es[j] = true)) := by
        show ∀ q, _ → _
        rintro q rfl
        refine ⟨hnk, fun h j hj hj2 => ?_⟩
        rcases Nat.lt_or_ge j k with h2 | h2
        · exact hok.out j h2 hj2
        · have : j = k := by omega
          subst this
          exact h
      have HI := Lib.hid (ref_isEntry es[k].idx es[k].trm es[k].knd es[k].dat wr)
      obtain ⟨q, hq⟩ := hide (entOk es[k])
      have hnk2 := Hnk.out q hq.out
      have hqe : isEntry es[k].idx es[k].trm es[k].knd es[k].dat = q := hq.out
      rw [hqe] at HI
      obtain ⟨y, hy⟩ := hide es[k]
      rw [hy.out] at c0 c1 c2 c3 HI
      have Hnk2 := Lib.hid hnk2
      obtain ⟨V, hV⟩ := hide (wr.alloc (.cells #[.int .i64 y.idx, .int .i64 y.trm, .int .i64 y.knd, str y.dat] 78))
      have HbV : Hid (Below W.heap.size W V) := by show Below _ _ _; rw [← hV.out]; exact hb.out.alloc hb.out.size _
      rw [hV.out] at HI
      clear hnk hnk2 hqe hx
      go_wp2_with fail
      refine HI.out.mono ?_
      rintro e w1 ⟨rfl, rfl⟩
      cases q with
      | false =>
        have Hq := Lib.hid (Hpo.out false _ HbV.out (Hnk2.out.1 rfl))
        go_wp2_with fail
        exact Hq.out
      | true =>
        have Hall := Lib.hid (Hnk2.out.2 rfl)
        have hk9 : k ≤ 3518437208883 := by have := Hn.out; omega
        clear c0 c1 c2 c3 p4
        go_wp2_with fail
        go_roundw
        case rel => exact ⟨k + 1, by go_num, hlt, Hall, HbV⟩
        case measure => simp [intOf]; omega
    · obtain rfl : k = es.length := by omega
      have hall : es.all entOk = true := List.all_eq_true.2 (fun e he => by
        obtain ⟨j, hj, rfl⟩ := List.getElem_of_mem he
        exact hok.out j hj hj)
      have p5 := cell_n hx 5 (v := .int .i64 si) rfl
      have p6 := cell_n hx 6 (v := .int .i64 st) rfl
      have p7 := cell_n hx 7 (v := .slice a1 sc.v.length ap1) rfl
      have p8 := cell_n hx 8 (v := .slice a2 sc.n.length ap2) rfl
      have p9 := cell_n hx 9 (v := .slice a3 sc.l.length ap3) rfl
      have p10 := cell_n hx 10 (v := str sd) rfl
      have hmay : mayB t v c es si st sc sd = ((isSnap si st sc sd || decide (si ≤ 0)) && (decide (0 ≤ t) && (decide (0 ≤ v) && (decide (0 ≤ c) && (decide (t ≤ 1099511627775) && (decide (v ≤ 1099511627775) && decide (c ≤ 1099511627775))))))) := by rw [mayB, hall, Bool.true_and]
      rw [hmay] at Hpo
      have HSw := Lib.hid (HS.out wr hb.out)
      obtain ⟨q0, hq0⟩ := hide (isSnap si st sc sd)
      obtain ⟨q1, hq1⟩ := hide (decide (si ≤ 0))
      obtain ⟨q2, hq2⟩ := hide (decide (0 ≤ t))
      obtain ⟨q3, hq3⟩ := hide (decide (0 ≤ v))
      obtain ⟨q4, hq4⟩ := hide (decide (0 ≤ c))
      obtain ⟨q5, hq5⟩ := hide (decide (t ≤ 1099511627775))
      obtain ⟨q6, hq6⟩ := hide (decide (v ≤ 1099511627775))
      obtain ⟨q7, hq7⟩ := hide (decide (c ≤ 1099511627775))
      rw [hq0.out] at HSw
      rw [hq0.out, hq1.out, hq2.out, hq3.out, hq4.out, hq5.out, hq6.out, hq7.out] at Hpo
      clear hall hmay hx hlt
      go_wp2_with fail
      refine HSw.out.mono ?_
      rintro e w1 ⟨rfl, hb1⟩
      have Hb1 : Hid (Below W.heap.size W w1) := hb.out.trans (hb1.mono hb.out.size)
      have hx1 := (Hb1.out.block _ (lt_of_block HX.out)).trans HX.out
      clear hb1 p4 p5 p6 p7 p8 p9 p10
      have p0 := cell_n hx1 0 (v := .int .i64 t) rfl
      have p1 := cell_n hx1 1 (v := .int .i64 v) rfl
      have p2 := cell_n hx1 2 (v := .int .i64 c) rfl
      obtain ⟨V, hV⟩ := hide (w1.alloc (.cells #[.int .i64 t, .int .i64 v, .int .i64 c] 23))
      obtain ⟨C, hC⟩ := hide w1.heap.size
      have HbV : Hid (Below W.heap.size W V) := by show Below _ _ _; rw [← hV.out]; exact Hb1.out.alloc Hb1.out.size _
      have HCV : V.heap[C]? = some (.cells #[.int .i64 t, .int .i64 v, .int .i64 c] 23 (0, 0)) := by rw [← hV.out, ← hC.out]; exact hp_at _ _ rfl
      have hxV := (HbV.out.block _ (lt_of_block HX.out)).trans HX.out
      dsimp only
      go_upto_region 9 with fail
      rw [hV.out, hC.out]
      clear hx1 p0 p1 p2
      have p5 := cell_n hxV 5 (v := .int .i64 si) rfl
      have c0 := cell_n HCV 0 (v := .int .i64 t) rfl
      have c1 := cell_n HCV 1 (v := .int .i64 v) rfl
      have c2 := cell_n HCV 2 (v := .int .i64 c) rfl
      clear hxV HCV
      have t1 : decide (si ≤ 0) = q1 := hq1.out
      have t2 : decide (0 ≤ t) = q2 := hq2.out
      have t3 : decide (0 ≤ v) = q3 := hq3.out
      have t4 : decide (0 ≤ c) = q4 := hq4.out
      have t5 : decide (t ≤ 1099511627775) = q5 := hq5.out
      have t6 : decide (v ≤ 1099511627775) = q6 := hq6.out
      have t7 : decide (c ≤ 1099511627775) = q7 := hq7.out
      cases q0 with
      | false =>
        cases q1 with
        | false =>
          have Hq := Lib.hid (Hpo.out _ V HbV.out rfl)
          go_wp2_with fail
          exact Hq.out
        | true =>
          cases q2 with
          | false =>
            have Hq := Lib.hid (Hpo.out _ V HbV.out rfl)
            go_wp2_with fail
            exact Hq.out
          | true =>
          cases q3 with
          | false =>
            have Hq := Lib.hid (Hpo.out _ V HbV.out rfl)
            go_wp2_with fail
            exact Hq.out
          | true =>
          cases q4 with
          | false =>
            have Hq := Lib.hid (Hpo.out _ V HbV.out rfl)
            go_wp2_with fail
            exact Hq.out
          | true =>
          cases q5 with
          | false =>
            have Hq := Lib.hid (Hpo.out _ V HbV.out rfl)
            go_wp2_with fail
            exact Hq.out
          | true =>
          cases q6 with
          | false =>
            have Hq := Lib.hid (Hpo.out _ V HbV.out rfl)
            go_wp2_with fail
            exact Hq.out
          | true =>
          cases q7 with
          | false =>
            have Hq := Lib.hid (Hpo.out _ V HbV.out rfl)
            go_wp2_with fail
            exact Hq.out
          | true =>
          have Hq := Lib.hid (Hpo.out _ V HbV.out rfl)
          go_wp2_with fail
          exact Hq.out
      | true =>
        cases q1
        all_goals
          cases q2 with
          | false =>
            have Hq := Lib.hid (Hpo.out _ V HbV.out rfl)
            go_wp2_with fail
            exact Hq.out
          | true =>
          cases q3 with
          | false =>
            have Hq := Lib.hid (Hpo.out _ V HbV.out rfl)
            go_wp2_with fail
            exact Hq.out
          | true =>
          cases q4 with
          | false =>
            have Hq := Lib.hid (Hpo.out _ V HbV.out rfl)
            go_wp2_with fail
            exact Hq.out
          | true =>
          cases q5 with
          | false =>
            have Hq := Lib.hid (Hpo.out _ V HbV.out rfl)
            go_wp2_with fail
            exact Hq.out
          | true =>
          cases q6 with
          | false =>
            have Hq := Lib.hid (Hpo.out _ V HbV.out rfl)
            go_wp2_with fail
            exact Hq.out
          | true =>
          cases q7 with
          | false =>
            have Hq := Lib.hid (Hpo.out _ V HbV.out rfl)
            go_wp2_with fail
            exact Hq.out
          | true =>
          have Hq := Lib.hid (Hpo.out _ V HbV.out rfl)
          go_wp2_with fail
          exact Hq.out
end Go.Proofs.YtjlhlmnoomiblaaGreat
