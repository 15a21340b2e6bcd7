/-
  What a node keeps, written by the program (package wal): Save. What a node keeps, written by the document: records, hard state, entries, the file anew, Save.
-/
import Derived.Test.YtjlhlmnoomiblaaGreatZ19
import Derived.Deep.DeepCutAuto
namespace Go.Proofs.YtjlhlmnoomiblaaGreat
open Go.RowKit Wm Mm Lg Fl
set_option linter.unusedVariables false
set_option linter.unusedSimpArgs false

theorem putSnapB_len (i t : Int) (c : Conf) (d : List UInt8) : (putSnapB i t c d).length ≤ 8600 := by
  unfold putSnapB
  split
  · rename_i h
    obtain ⟨a, b, rfl, rfl, h1, h2, h3, h4⟩ := isSnap_facts h
    exact putSnap_len h1 h2 h3 h4
  · simp
theorem own_nil' (S : Nat) (w : World) : OwnA S w (.slice none 0 0) [] := World.ownsRow_nil _ _ _ _
theorem Config3.nil (w : World) : Config3 w (.slice none 0 0) (.slice none 0 0) (.slice none 0 0) noC := (Config3F.nil 0 w).conf
abbrev cellsR (t v c : Int) (kept : Bool) (ev : Value) (si st : Int) (x y z : Value) (sd : List UInt8) (m1 m2 m3 m4 : Value) : Array Value := #[.int .i64 t, .int .i64 v, .int .i64 c, .bool kept, ev, .int .i64 si, .int .i64 st, x, y, z, str sd, m1, m2, m3, m4]
set_option maxHeartbeats 2000000 in
theorem save_wal (t v c : Int) (kept : Bool) (ev : Value) (es : List EntP) (si st : Int) (x y z : Value) (sc : Conf) (sd : List UInt8) (am1 am2 am3 am4 : Option Addr) (n1 n2 n3 n4 k1 k2 k3 k4 : Nat) (F : Nat → Prop) (w : World) (hE : Ents F w ev es) (hc : Config3 w x y z sc) (hn : es.length ≤ 3518437208883)
    (ht : 0 ≤ t ∧ t ≤ 1099511627775) (hv : 0 ≤ v ∧ v ≤ 1099511627775) (hC : 0 ≤ c ∧ c ≤ 1099511627775) :
    Calls Tryz.prog 4 #[.agg (cellsR t v c kept ev si st x y z sd (.slice am1 n1 k1) (.slice am2 n2 k2) (.slice am3 n3 k3) (.slice am4 n4 k4))] w fun e w' => ∃ v', e = .returned v' ∧ OwnA w.heap.size w' v' (saveA kept t v c es si st sc sd) ∧ Below w.heap.size w w' := by
  obtain ⟨post, HP⟩ := hide (fun (e : Ending) (w' : World) => ∃ v', e = .returned v' ∧ OwnA w.heap.size w' v' (saveA kept t v c es si st sc sd) ∧ Below w.heap.size w w')
  rw [HP.out]
  obtain ⟨ao1, cp1, rfl, _⟩ := len_of_Ints hc.v
  obtain ⟨ao2, cp2, rfl, _⟩ := len_of_Ints hc.n
  obtain ⟨ao3, cp3, rfl, _⟩ := len_of_Ints hc.l
  obtain ⟨ae, ce, rfl, _, _⟩ := hE.slice
  obtain ⟨t, rfl⟩ : ∃ n : Nat, t = n := ⟨t.toNat, by omega⟩
  obtain ⟨v, rfl⟩ : ∃ n : Nat, v = n := ⟨v.toNat, by omega⟩
  obtain ⟨c, rfl⟩ : ∃ n : Nat, c = n := ⟨c.toNat, by omega⟩
  obtain ⟨W, hW⟩ := hide (w.alloc (.cells (cellsR t v c kept (.slice ae es.length ce) si st (.slice ao1 sc.v.length cp1) (.slice ao2 sc.n.length cp2) (.slice ao3 sc.l.length cp3) sd (.slice am1 n1 k1) (.slice am2 n2 k2) (.slice am3 n3 k3) (.slice am4 n4 k4)) 33))
  obtain ⟨B, hB⟩ := hide w.heap.size
  have h0 : W.heap[B]? = some (.cells (cellsR t v c kept (.slice ae es.length ce) si st (.slice ao1 sc.v.length cp1) (.slice ao2 sc.n.length cp2) (.slice ao3 sc.l.length cp3) sd (.slice am1 n1 k1) (.slice am2 n2 k2) (.slice am3 n3 k3) (.slice am4 n4 k4)) 33 (0, 0)) := by rw [← hW.out, ← hB.out]; exact hp_at _ _ rfl
  have HbW : Hid (Below w.heap.size w W) := by show Below _ _ _; rw [← hW.out]; exact (Below.refl _ _).alloc (Nat.le_refl _) _
  have c0 := cell_n h0 0 (v := .int .i64 (t : Int)) rfl
  have c1 := cell_n h0 1 (v := .int .i64 (v : Int)) rfl
  have c2 := cell_n h0 2 (v := .int .i64 (c : Int)) rfl
  have c3 := cell_n h0 3 (v := .bool kept) rfl
  have c4 := cell_n h0 4 (v := .slice ae es.length ce) rfl
  have c5 := cell_n h0 5 (v := .int .i64 si) rfl
  by_cases hsi : 0 < si
  · have c6 := cell_n h0 6 (v := .int .i64 st) rfl
    have c7 := cell_n h0 7 (v := .slice ao1 sc.v.length cp1) rfl
    have c8 := cell_n h0 8 (v := .slice ao2 sc.n.length cp2) rfl
    have c9 := cell_n h0 9 (v := .slice ao3 sc.l.length cp3) rfl
    have c10 := cell_n h0 10 (v := str sd) rfl
    have t0 : decide (0 < si) = true := decide_eq_true hsi
    have HR := Lib.hid (rewrite_wal ⟨t, v, c, 0, 0, es, si, st, sc, sd, noC⟩ _ _ _ _ _ _ _ F W (hE.frame (Plain.good _) (Agree.below HbW.out)) (hc.mono HbW.out) (Config3.nil W) hn ht hv hC (by have := putSnapB_len si st sc sd; simp only; omega))
    have HP2 : Hid (∀ v' w', OwnA W.heap.size w' v' (cutA (cutD t v c es si st sc sd)) → Below W.heap.size W w' → post (.returned v') w') := by
      show ∀ v' w', _ → _ → _
      intro v' w' ho hb2
      rw [← HP.out]
      refine ⟨v', rfl, ?_, HbW.out.trans (hb2.mono HbW.out.size)⟩
      rw [saveA, if_pos hsi]
      exact own_base ho HbW.out.size
    clear hE hc hn ht hv hC h0 hsi
    go_enter Tryz.func4, Tryz.ntmps4
    go_upto_region 1 with fail
    rw [hW.out, hB.out]
    go_wp2_with fail
    refine HR.out.mono ?_
    rintro e w1 ⟨v', rfl, ho, hb1⟩
    have Hq := Lib.hid (HP2.out _ _ ho hb1)
    obtain ⟨a, cc, rfl⟩ := owns_slice ho
    clear ho hb1 c0 c1 c2 c3 c4 c5 c6 c7 c8 c9 c10
    go_wp2_with fail
    exact Hq.out
  · have t0 : decide (0 < si) = false := decide_eq_false hsi
    have HH : Hid (∀ w1, Calls Tryz.prog 20 #[.agg #[.int .i64 t, .int .i64 v, .int .i64 c]] w1 fun e w' => e = .returned (str (hardB t v c)) ∧ Below w1.heap.size w1 w') := fun w1 => hard_wal t v c w1 (by omega) (by omega) (by omega)
    have HN : Hid (∀ w1, Below W.heap.size W w1 → Calls Tryz.prog 21 #[.slice ae es.length ce] w1 fun e w' => e = .returned (str (entsB es)) ∧ Below w1.heap.size w1 w') := fun w1 hb => ents_wal _ es F w1 ((hE.frame (Plain.good _) (Agree.below HbW.out)).frame (Plain.good _) (Agree.below hb)) hn
    have hd : ∀ s, s = saveD kept t v c es → saveA kept t v c es si st sc sd = if s = [] then [] else [⟨2, nLog, [], s, 0⟩, ⟨3, nLog, [], [], 0⟩] := by
      rintro s rfl
      rw [saveA, if_neg hsi]
    have Hend : Hid (∀ s U, s = saveD kept t v c es → Below W.heap.size W U → (s = [] → post (.returned (.slice none 0 0)) U) ∧ (s ≠ [] → post (.returned (.slice (some ⟨U.heap.size, 0, none⟩) 2 2)) (U.alloc (.cells (([⟨2, nLog, [], s, 0⟩, ⟨3, nLog, [], [], 0⟩] : List ActP).flatMap rowA).toArray 38)))) := by
      show ∀ s U, _ → _ → _
      intro s U hs hbU
      have hbU2 : Below w.heap.size w U := HbW.out.trans (hbU.mono HbW.out.size)
      constructor
      · intro h1
        rw [← HP.out]
        refine ⟨_, rfl, ?_, hbU2⟩
        rw [hd s hs, if_pos h1]
        exact own_nil' _ _
      · intro h1
        rw [← HP.out]
        refine ⟨_, rfl, ?_, hbU2.alloc hbU2.size _⟩
        rw [hd s hs, if_neg h1]
        exact own_lit rowA rowA_len (l := [⟨2, nLog, [], s, 0⟩, ⟨3, nLog, [], [], 0⟩]) (hp_at _ _ rfl) hbU2.size (by show 2 ≤ maxLen; decide)
    have hl2 : (hardB t v c).length ≤ 65549 := recB_len 1 _
    have hl3 := entsB_len es
    have hsum : (hardB t v c).length + (entsB es).length ≤ 230636480640000000 := by omega
    have HD1 : Hid (saveD true t v c es = hardB t v c ++ entsB es) := rfl
    have HD0 : Hid (saveD false t v c es = entsB es) := rfl
    obtain ⟨r2, hr2⟩ := hide (hardB t v c)
    obtain ⟨r3, hr3⟩ := hide (entsB es)
    rw [hr2.out] at HH hl2 hsum HD1
    rw [hr3.out] at HN hl3 hsum HD1 HD0
    clear hE hc hn ht hv hC h0 hsi hd
    cases kept with
    | true =>
      rw [HD1.out] at Hend
      go_enter Tryz.func4, Tryz.ntmps4
      go_upto_region 1 with fail
      rw [hW.out, hB.out]
      go_wp2_with fail
      refine (HH.out _).mono ?_
      rintro e w1 ⟨rfl, hb1⟩
      have Hb1 := Lib.hid hb1
      have d4 : w1.cell? ⟨B, 4, none⟩ = some (.slice ae es.length ce) := by rw [hb1.cell (p := ⟨B, 4, none⟩) (lt_of_cell c4)]; exact c4
      clear hb1 c0 c1 c2 c3 c4 c5
      go_wp2_with fail
      refine (HN.out _ Hb1.out).mono ?_
      rintro e w2 ⟨rfl, hb2⟩
      have Hb2 := Lib.hid (Hb1.out.trans (hb2.mono Hb1.out.size))
      have HQ := Lib.hid (Hend.out (r2 ++ r3) w2 rfl Hb2.out)
      clear hb2 d4
      by_cases hz : r2 ++ r3 = []
      · have hz1 : (r2 ++ r3 == []) = true := by rw [hz]; rfl
        have Hq := Lib.hid (HQ.out.1 hz)
        clear hz
        go_wp2_with fail
        exact Hq.out
      · have hz1 : (r2 ++ r3 == []) = false := beq_eq_false_iff_ne.2 hz
        have Hq := Lib.hid (HQ.out.2 hz)
        clear hz
        go_wp2_with fail
        exact Hq.out
    | false =>
      rw [HD0.out] at Hend
      go_enter Tryz.func4, Tryz.ntmps4
      go_upto_region 1 with fail
      rw [hW.out, hB.out]
      go_wp2_with fail
      refine (HN.out _ (Below.refl _ _)).mono ?_
      rintro e w2 ⟨rfl, hb2⟩
      have Hb2 := Lib.hid hb2
      have HQ := Lib.hid (Hend.out r3 w2 rfl Hb2.out)
      clear hb2 c0 c1 c2 c3 c4 c5
      by_cases hz : r3 = []
      · have hz1 : (r3 == []) = true := by rw [hz]; rfl
        have Hq := Lib.hid (HQ.out.1 hz)
        clear hz
        go_wp2_with fail
        exact Hq.out
      · have hz1 : (r3 == []) = false := beq_eq_false_iff_ne.2 hz
        have Hq := Lib.hid (HQ.out.2 hz)
        clear hz
        go_wp2_with fail
        exact Hq.out
end Go.Proofs.YtjlhlmnoomiblaaGreat

namespace Go.Proofs.YtjlhlmnoomiblaaGreat
open Go.RowKit Wm Mm Lg Fl
set_option linter.unusedVariables false
set_option linter.unusedSimpArgs false

set_option maxHeartbeats 1000000 in
theorem ref_record (k : Int) (b : List UInt8) (w : World) (hk : k = 1 ∨ k = 2 ∨ k = 3) (hb : b.length ≤ 140737488355000) :
    Calls Tryz.prog 43 #[.int .i64 k, str b] w fun e w' => e = .returned (str (recB (UInt8.ofNat k.toNat) b)) ∧ Below w.heap.size w w' := by
  have hl : 1 + b.length ≤ 140737488355001 := by omega
  have kc := toStr1
  rcases hk with rfl | rfl | rfl
  · obtain ⟨W, hW⟩ := hide (w.alloc (.cells #[.int .u8 1] 5))
    have hb0 : Hid (Below w.heap.size w W) := by show Below _ _ _; rw [← hW.out]; exact (Below.refl _ _).alloc (Nat.le_refl _) _
    have HF := Lib.hid (ref_frame (1 :: b) W (by simp; omega))
    obtain ⟨q, hq⟩ := hide (frameB (1 :: b))
    obtain ⟨qz, hqz⟩ := hide (frameE (1 :: b))
    have Hq : Hid (recB (UInt8.ofNat (1 : Int).toNat) b = q) := hq.out
    rw [hq.out, hqz.out] at HF
    rw [Hq.out]
    clear hb
    go_enter Tryz.func43, Tryz.ntmps43
    go_wp2_with fail
    rw [hW.out]
    refine HF.out.mono ?_
    rintro e w1 ⟨rfl, hb1⟩
    have Hb1 := Lib.hid (hb0.out.trans (hb1.mono hb0.out.size))
    clear hb1
    go_wp2_with fail
    go_ret
    exact ⟨rfl, Hb1.out⟩
  · obtain ⟨W, hW⟩ := hide (w.alloc (.cells #[.int .u8 2] 5))
    have hb0 : Hid (Below w.heap.size w W) := by show Below _ _ _; rw [← hW.out]; exact (Below.refl _ _).alloc (Nat.le_refl _) _
    have HF := Lib.hid (ref_frame (2 :: b) W (by simp; omega))
    obtain ⟨q, hq⟩ := hide (frameB (2 :: b))
    obtain ⟨qz, hqz⟩ := hide (frameE (2 :: b))
    have Hq : Hid (recB (UInt8.ofNat (2 : Int).toNat) b = q) := hq.out
    rw [hq.out, hqz.out] at HF
    rw [Hq.out]
    clear hb
    go_enter Tryz.func43, Tryz.ntmps43
    go_wp2_with fail
    rw [hW.out]
    refine HF.out.mono ?_
    rintro e w1 ⟨rfl, hb1⟩
    have Hb1 := Lib.hid (hb0.out.trans (hb1.mono hb0.out.size))
    clear hb1
    go_wp2_with fail
    go_ret
    exact ⟨rfl, Hb1.out⟩
  · obtain ⟨W, hW⟩ := hide (w.alloc (.cells #[.int .u8 3] 5))
    have hb0 : Hid (Below w.heap.size w W) := by show Below _ _ _; rw [← hW.out]; exact (Below.refl _ _).alloc (Nat.le_refl _) _
    have HF := Lib.hid (ref_frame (3 :: b) W (by simp; omega))
    obtain ⟨q, hq⟩ := hide (frameB (3 :: b))
    obtain ⟨qz, hqz⟩ := hide (frameE (3 :: b))
    have Hq : Hid (recB (UInt8.ofNat (3 : Int).toNat) b = q) := hq.out
    rw [hq.out, hqz.out] at HF
    rw [Hq.out]
    clear hb
    go_enter Tryz.func43, Tryz.ntmps43
    go_wp2_with fail
    rw [hW.out]
    refine HF.out.mono ?_
    rintro e w1 ⟨rfl, hb1⟩
    have Hb1 := Lib.hid (hb0.out.trans (hb1.mono hb0.out.size))
    clear hb1
    go_wp2_with fail
    go_ret
    exact ⟨rfl, Hb1.out⟩
set_option maxHeartbeats 1000000 in
theorem ref_hard (t v c : Nat) (w : World) (ht : t < 9223372036854775808) (hv : v < 9223372036854775808) (hc : c < 9223372036854775808) :
    Calls Tryz.prog 33 #[.agg #[.int .i64 t, .int .i64 v, .int .i64 c]] w fun e w' => e = .returned (str (hardB t v c)) ∧ Below w.heap.size w w' := by
  obtain ⟨W0, hW0⟩ := hide (w.alloc (.cells #[.int .i64 t, .int .i64 v, .int .i64 c] 23))
  obtain ⟨B, hB⟩ := hide w.heap.size
  have h0 : W0.heap[B]? = some (.cells #[.int .i64 t, .int .i64 v, .int .i64 c] 23 (0, 0)) := by rw [← hW0.out, ← hB.out]; exact hp_at _ _ rfl
  have H0 := Lib.hid h0
  have c0 := cell_n h0 0 (v := .int .i64 t) rfl
  have hb0 : Hid (Below w.heap.size w W0) := by show Below _ _ _; rw [← hW0.out]; exact (Below.refl _ _).alloc (Nat.le_refl _) _
  have N1 := Lib.hid (ref_number_any ht W0)
  have N2 : Hid (∀ w1, Calls Tryz.prog 71 #[.int .i64 v] w1 fun e w' => e = .returned (str (putNum v)) ∧ Below w1.heap.size w1 w') := fun w1 => ref_number_any hv w1
  have N3 : Hid (∀ w1, Calls Tryz.prog 71 #[.int .i64 c] w1 fun e w' => e = .returned (str (putNum c)) ∧ Below w1.heap.size w1 w') := fun w1 => ref_number_any hc w1
  have g1 := putNum_len10 ht
  have g2 := putNum_len10 hv
  have g3 := putNum_len10 hc
  have HF : Hid (∀ w1, Calls Tryz.prog 43 #[.int .i64 1, str (putNum t ++ (putNum v ++ putNum c))] w1 fun e w' => e = .returned (str (hardB t v c)) ∧ Below w1.heap.size w1 w') := by
    show ∀ w1, _
    intro w1
    exact ref_record 1 _ w1 (Or.inl rfl) (by simp only [List.length_append]; omega)
  obtain ⟨r, hr⟩ := hide (hardB t v c)
  rw [hr.out] at HF ⊢
  obtain ⟨p1, hp1⟩ := hide (putNum t)
  obtain ⟨p2, hp2⟩ := hide (putNum v)
  obtain ⟨p3, hp3⟩ := hide (putNum c)
  rw [hp1.out] at N1 HF g1
  rw [hp2.out] at N2 HF g2
  rw [hp3.out] at N3 HF g3
  have s1 : p1.length + p2.length ≤ 20 := by omega
  have s2 : p1.length + p2.length + p3.length ≤ 30 := by omega
  clear h0 ht hv hc
  go_enter Tryz.func33, Tryz.ntmps33
  go_upto_region 1 with fail
  rw [hW0.out, hB.out]
  go_wp2_with fail
  refine N1.out.mono ?_
  rintro e w1 ⟨rfl, hb1⟩
  have Hb1 := Lib.hid (hb0.out.trans (hb1.mono hb0.out.size))
  have H1 : Hid (w1.heap[B]? = some (.cells #[.int .i64 t, .int .i64 v, .int .i64 c] 23 (0, 0))) := (hb1.block B (lt_of_block H0.out)).trans H0.out
  have c1 := cell_n H1.out 1 (v := .int .i64 v) rfl
  clear hb1 c0
  go_wp2_with fail
  refine (N2.out _).mono ?_
  rintro e w2 ⟨rfl, hb2⟩
  have Hb2 := Lib.hid (Hb1.out.trans (hb2.mono Hb1.out.size))
  have H2 : Hid (w2.heap[B]? = some (.cells #[.int .i64 t, .int .i64 v, .int .i64 c] 23 (0, 0))) := (hb2.block B (lt_of_block H1.out)).trans H1.out
  have c2 := cell_n H2.out 2 (v := .int .i64 c) rfl
  clear hb2 c1
  go_wp2_with fail
  refine (N3.out _).mono ?_
  rintro e w3 ⟨rfl, hb3⟩
  have Hb3 := Lib.hid (Hb2.out.trans (hb3.mono Hb2.out.size))
  clear hb3 c2
  go_wp2_with fail
  refine (HF.out _).mono ?_
  rintro e w4 ⟨rfl, hb4⟩
  have Hb4 := Lib.hid (Hb3.out.trans (hb4.mono Hb3.out.size))
  clear hb4
  go_wp2_with fail
  go_ret
  exact ⟨rfl, Hb4.out⟩
def entOk (e : EntP) : Bool := isEntry e.idx e.trm e.knd e.dat
set_option maxHeartbeats 1000000 in
theorem ref_ents (v : Value) (es : List EntP) (F : Nat → Prop) (w : World) (h : Ents F w v es) (hn : es.length ≤ 3518437208883) (hok : ∀ e ∈ es, entOk e = true) :
    Calls Tryz.prog 39 #[v] w fun e w' => e = .returned (str (entsB es)) ∧ Below w.heap.size w w' := by
  obtain ⟨ao, cap, rfl, hcap, hmax⟩ := h.slice
  have HF : Hid (∀ w', Below w.heap.size w w' → Ents F w' (.slice ao es.length cap) es) := fun w' hb => h.frame (Plain.good _) (Agree.below hb)
  have HR : Hid (∀ b : List UInt8, b.length ≤ 300 → ∀ w1, Calls Tryz.prog 43 #[.int .i64 2, str b] w1 fun e w' => e = .returned (str (recB 2 b)) ∧ Below w1.heap.size w1 w') := fun b hb w1 => ref_record 2 b w1 (Or.inr (Or.inl rfl)) (by omega)
  have HE : Hid (∀ e ∈ es, ∀ w1, Calls Tryz.prog 75 #[vEnt e.idx e.trm e.knd e.dat] w1 fun x w' => x = .returned (str (putEntB e.idx e.trm e.knd e.dat)) ∧ Below w1.heap.size w1 w') := by
    show ∀ e ∈ es, _
    intro e he w1
    have ho := hok e he
    unfold entOk at ho
    obtain ⟨a, b, c, h1, h2, h3, h4, h5, h6, h7⟩ := isEntry_facts ho
    unfold putEntB
    rw [if_pos ho, h1, h2, h3]
    exact ref_entry a b c e.dat w1 (by omega) (by omega) (by omega) (by omega)
  clear h hmax hok
  go_enter Tryz.func39, Tryz.ntmps39
  go_wp2_with fail
  go_loopw [3, 4] (fun s i wr => ∃ (k : Nat) (acc : List UInt8), i = .int .i64 k ∧ s = str acc ∧ k ≤ es.length ∧ Hid (acc = entsB (es.take k)) ∧ Hid (Below w.heap.size w wr)) (fun _ i _ => es.length - (intOf i).toNat)
  case atStart => exact ⟨0, [], rfl, rfl, Nat.zero_le _, rfl, Below.refl _ _⟩
  case round =>
    obtain ⟨k, acc, rfl, rfl, hk, ha, hb⟩ := hrel
    by_cases hlt : k < es.length
    · obtain ⟨b, off, rfl, c0, c1, c2, c3⟩ := Sl.fourE (HF.out _ hb.out) hlt
      have hacc : acc.length ≤ 230636480630000000 := by
        rw [ha.out]
        have := entsB_len (es.take k)
        rw [List.length_take] at this
        omega
      have Hn : Hid (acc ++ entB es[k] = entsB (es.take (k + 1))) := by
        show _ = _
        rw [ha.out, ← entsB_snoc, List.take_add_one, List.getElem?_eq_getElem hlt]
        rfl
      have HP := Lib.hid (HE.out es[k] (List.getElem_mem hlt) wr)
      obtain ⟨y, hy⟩ := hide es[k]
      rw [hy.out] at c0 c1 c2 c3 Hn HP
      have hql := putEntB_len y.idx y.trm y.knd y.dat
      have HR2 := HR.out (putEntB y.idx y.trm y.knd y.dat) (by omega)
      have hrl := recB_len 2 (putEntB y.idx y.trm y.knd y.dat)
      have Hn2 : Hid (acc ++ recB 2 (putEntB y.idx y.trm y.knd y.dat) = entsB (es.take (k + 1))) := Hn.out
      obtain ⟨q, hq⟩ := hide (putEntB y.idx y.trm y.knd y.dat)
      rw [hq.out] at HP HR2 hrl Hn2
      obtain ⟨r, hr⟩ := hide (recB 2 q)
      rw [hr.out] at HR2 hrl Hn2
      have HR3 := Lib.hid HR2
      have hsum : acc.length + r.length ≤ 230636480630100000 := by omega
      clear HR2 hql hrl hacc
      go_wp2_with fail
      refine HP.out.mono ?_
      rintro e w2 ⟨rfl, hb2⟩
      have Hb2 := Lib.hid (hb.out.trans (hb2.mono hb.out.size))
      clear hb2 c0 c1 c2 c3
      go_wp2_with fail
      refine (HR3.out _).mono ?_
      rintro e w3 ⟨rfl, hb3⟩
      have Hb3 := Lib.hid (Hb2.out.trans (hb3.mono Hb2.out.size))
      clear hb3
      go_wp2_with fail
      go_roundw
      case rel => exact ⟨k + 1, acc ++ r, by go_num, rfl, hlt, Hn2, Hb3⟩
      case measure => simp [intOf]; omega
    · obtain rfl : k = es.length := by omega
      have He : Hid (acc = entsB es) := by show _ = _; rw [ha.out, List.take_length]
      go_wp2_with fail
      go_ret
      exact ⟨by rw [He.out] <;> rfl, hb.out⟩
set_option maxHeartbeats 2000000 in
theorem ref_cut (k : Kp) (ev x y z cx cy cz : Value) (F : Nat → Prop) (w : World) (hE : Ents F w ev k.es) (hc : Config3 w x y z k.sc) (hcf : Config3 w cx cy cz k.cf) (hn : k.es.length ≤ 3518437208883)
    (ht : 0 ≤ k.t ∧ k.t ≤ 1099511627775) (hv : 0 ≤ k.v ∧ k.v ≤ 1099511627775) (hC : 0 ≤ k.c ∧ k.c ≤ 1099511627775) (hok : ∀ e ∈ k.es, entOk e = true) (hsn : isSnap k.si k.st k.sc k.sd = true) :
    Calls Tryz.prog 17 #[.agg (cellsK k ev x y z cx cy cz)] w fun e w' => ∃ v', e = .returned v' ∧ OwnA w.heap.size w' v' (cutA (cutD k.t k.v k.c k.es k.si k.st k.sc k.sd)) ∧ Below w.heap.size w w' := by
  obtain ⟨post, HP⟩ := hide (fun (e : Ending) (w' : World) => ∃ v', e = .returned v' ∧ OwnA w.heap.size w' v' (cutA (cutD k.t k.v k.c k.es k.si k.st k.sc k.sd)) ∧ Below w.heap.size w w')
  rw [HP.out]
  obtain ⟨ao1, cp1, rfl, _⟩ := len_of_Ints hc.v
  obtain ⟨ao2, cp2, rfl, _⟩ := len_of_Ints hc.n
  obtain ⟨ao3, cp3, rfl, _⟩ := len_of_Ints hc.l
  obtain ⟨ao4, cp4, rfl, _⟩ := len_of_Ints hcf.v
  obtain ⟨ao5, cp5, rfl, _⟩ := len_of_Ints hcf.n
  obtain ⟨ao6, cp6, rfl, _⟩ := len_of_Ints hcf.l
  obtain ⟨ae, ce, rfl, _, _⟩ := hE.slice
  obtain ⟨t, v, c, base, bt, es, si, st, sc, sd, cf⟩ := k
  dsimp only at *
  obtain ⟨t, rfl⟩ : ∃ n : Nat, t = n := ⟨t.toNat, by omega⟩
  obtain ⟨v, rfl⟩ : ∃ n : Nat, v = n := ⟨v.toNat, by omega⟩
  obtain ⟨c, rfl⟩ : ∃ n : Nat, c = n := ⟨c.toNat, by omega⟩
  obtain ⟨si, st, rfl, rfl, f1, f2, f3, f4⟩ := isSnap_facts hsn
  obtain ⟨C, hCC⟩ := hide (#[Value.int .i64 t, .int .i64 v, .int .i64 c, .int .i64 base, .int .i64 bt, .slice ae es.length ce, .int .i64 si, .int .i64 st, .slice ao1 sc.v.length cp1, .slice ao2 sc.n.length cp2, .slice ao3 sc.l.length cp3, str sd, .slice ao4 cf.v.length cp4, .slice ao5 cf.n.length cp5, .slice ao6 cf.l.length cp6])
  obtain ⟨W, hW⟩ := hide (w.alloc (.cells #[Value.int .i64 t, .int .i64 v, .int .i64 c, .int .i64 base, .int .i64 bt, .slice ae es.length ce, .int .i64 si, .int .i64 st, .slice ao1 sc.v.length cp1, .slice ao2 sc.n.length cp2, .slice ao3 sc.l.length cp3, str sd, .slice ao4 cf.v.length cp4, .slice ao5 cf.n.length cp5, .slice ao6 cf.l.length cp6] 43))
  obtain ⟨B, hB⟩ := hide w.heap.size
  have h0 : W.heap[B]? = some (.cells #[Value.int .i64 t, .int .i64 v, .int .i64 c, .int .i64 base, .int .i64 bt, .slice ae es.length ce, .int .i64 si, .int .i64 st, .slice ao1 sc.v.length cp1, .slice ao2 sc.n.length cp2, .slice ao3 sc.l.length cp3, str sd, .slice ao4 cf.v.length cp4, .slice ao5 cf.n.length cp5, .slice ao6 cf.l.length cp6] 43 (0, 0)) := by rw [← hW.out, ← hB.out]; exact hp_at _ _ rfl
  have HbW : Hid (Below w.heap.size w W) := by show Below _ _ _; rw [← hW.out]; exact (Below.refl _ _).alloc (Nat.le_refl _) _
  have c6 := cell_n h0 6 (v := .int .i64 si) rfl
  have c7 := cell_n h0 7 (v := .int .i64 st) rfl
  have c8 := cell_n h0 8 (v := .slice ao1 sc.v.length cp1) rfl
  have c9 := cell_n h0 9 (v := .slice ao2 sc.n.length cp2) rfl
  have c10 := cell_n h0 10 (v := .slice ao3 sc.l.length cp3) rfl
  have c11 := cell_n h0 11 (v := str sd) rfl
  have HS := Lib.hid (ref_snapshot si st _ _ _ sc sd W (hc.mono HbW.out) f1 f2 f3 f4)
  have eq1 : putSnapB si st sc sd = putSnap si st sc sd := if_pos hsn
  have hql := putSnap_len f1 f2 f3 f4
  rw [← eq1] at HS hql
  obtain ⟨q, hq⟩ := hide (putSnapB si st sc sd)
  rw [hq.out] at HS hql
  have H0 := Lib.hid h0
  have hd : cutD (t : Int) (v : Int) (c : Int) es si st sc sd = recB 3 q ++ (hardB t v c ++ entsB es) := by rw [← hq.out]; rfl
  have hl1 := recB_len 3 q
  have hl2 : (hardB t v c).length ≤ 65549 := recB_len 1 _
  have hl3 := entsB_len es
  have HR : Hid (∀ w1, Calls Tryz.prog 43 #[.int .i64 3, str q] w1 fun e w' => e = .returned (str (recB 3 q)) ∧ Below w1.heap.size w1 w') := fun w1 => ref_record 3 q w1 (Or.inr (Or.inr rfl)) (by omega)
  have HH : Hid (∀ w1, Calls Tryz.prog 33 #[.agg #[.int .i64 t, .int .i64 v, .int .i64 c]] w1 fun e w' => e = .returned (str (hardB t v c)) ∧ Below w1.heap.size w1 w') := fun w1 => ref_hard t v c w1 (by omega) (by omega) (by omega)
  have HN : Hid (∀ w1, Below w.heap.size w w1 → Calls Tryz.prog 39 #[.slice ae es.length ce] w1 fun e w' => e = .returned (str (entsB es)) ∧ Below w1.heap.size w1 w') := fun w1 hb => ref_ents _ es F w1 (hE.frame (Plain.good _) (Agree.below hb)) hn hok
  obtain ⟨r1, hr1⟩ := hide (recB 3 q)
  obtain ⟨r2, hr2⟩ := hide (hardB t v c)
  obtain ⟨r3, hr3⟩ := hide (entsB es)
  rw [hr1.out] at HR hd hl1
  rw [hr2.out] at HH hd hl2
  rw [hr3.out] at HN hd hl3
  have hs1 : r1.length + r2.length ≤ 131098 := by omega
  have hs2 : r1.length + r2.length + r3.length ≤ 230636480640000000 := by omega
  have Hd := Lib.hid hd
  clear hE hc hcf hn ht hv hC hd hl1 hl2 hl3 h0 hsn hok f1 f2 f3 f4 eq1 hql
  go_enter Tryz.func17, Tryz.ntmps17
  go_upto_region 1 with fail
  rw [hW.out, hB.out]
  go_wp2_with fail
  refine HS.out.mono ?_
  rintro e w1 ⟨rfl, hb1⟩
  have Hb1 : Hid (Below w.heap.size w w1) := HbW.out.trans (hb1.mono HbW.out.size)
  have HB1 : Hid (w1.heap[B]? = _) := (hb1.block B (lt_of_block H0.out)).trans H0.out
  clear hb1 c6 c7 c8 c9 c10 c11
  go_wp2_with fail
  refine (HR.out _).mono ?_
  rintro e w2 ⟨rfl, hb2⟩
  have Hb2 : Hid (Below w.heap.size w w2) := Hb1.out.trans (hb2.mono Hb1.out.size)
  have HB2 : Hid (w2.heap[B]? = _) := (hb2.block B (lt_of_block HB1.out)).trans HB1.out
  have c0 := cell_n HB2.out 0 (v := .int .i64 t) rfl
  have c1 := cell_n HB2.out 1 (v := .int .i64 v) rfl
  have c2 := cell_n HB2.out 2 (v := .int .i64 c) rfl
  clear hb2
  go_wp2_with fail
  refine (HH.out _).mono ?_
  rintro e w3 ⟨rfl, hb3⟩
  have Hb3 : Hid (Below w.heap.size w w3) := Hb2.out.trans (hb3.mono Hb2.out.size)
  have HB3 : Hid (w3.heap[B]? = _) := (hb3.block B (lt_of_block HB2.out)).trans HB2.out
  have c5 := cell_n HB3.out 5 (v := .slice ae es.length ce) rfl
  clear hb3 c0 c1 c2
  go_wp2_with fail
  refine (HN.out _ Hb3.out).mono ?_
  rintro e U ⟨rfl, hb4⟩
  have HbU : Hid (Below w.heap.size w U) := Hb3.out.trans (hb4.mono Hb3.out.size)
  clear hb4 c5
  have Hq : Hid (∀ d, d = cutD (t : Int) (v : Int) (c : Int) es si st sc sd → post (.returned (.slice (some ⟨U.heap.size, 0, none⟩) 4 4)) (U.alloc (.cells ((cutA d).flatMap rowA).toArray 38))) := by
    show ∀ d, _ → _
    rintro d rfl
    rw [← HP.out]
    refine ⟨_, rfl, own_lit rowA rowA_len (l := cutA _) (hp_at _ _ rfl) ?_ (by show 4 ≤ maxLen; decide), ?_⟩
    · exact HbU.out.size
    · exact HbU.out.alloc HbU.out.size _
  have Hq2 := Lib.hid (Hq.out (r1 ++ (r2 ++ r3)) (by rw [Hd.out]))
  go_wp2_with fail
  exact Hq2.out
end Go.Proofs.YtjlhlmnoomiblaaGreat
