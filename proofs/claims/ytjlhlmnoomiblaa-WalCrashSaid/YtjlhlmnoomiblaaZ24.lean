/-
  What a node keeps, written by the program (package wal): Save.
-/
import Derived.Test.YtjlhlmnoomiblaaZ23
import Derived.Deep.DeepCutAuto
namespace Go.Proofs.Ytjlhlmnoomiblaa
open Go.RowKit Wm Mm Lg Fl
set_option linter.unusedVariables false
set_option linter.unusedSimpArgs false

theorem putSnapB_len (i t : Int) (c : Conf) (d : List UInt8) : (putSnapB i t c d).length ≤ 8600 := by
  unfold putSnapB
  split
  · rename_i h
    obtain ⟨a, b, rfl, rfl, h1, h2, h3, h4⟩ := isSnap_facts h
    exact putSnap_len h1 h2 h3 h4
  · simp
theorem own_nil' (S : Nat) (w : World) : OwnA S w (.slice none 0 0) [] := World.ownsRow_nil _ _ _ _
theorem Config3.nil (w : World) : Config3 w (.slice none 0 0) (.slice none 0 0) (.slice none 0 0) noC := (Config3F.nil 0 w).conf
abbrev cellsR (t v c : Int) (kept : Bool) (ev : Value) (si st : Int) (x y z : Value) (sd : List UInt8) (m1 m2 m3 m4 : Value) : Array Value := #[.int .i64 t, .int .i64 v, .int .i64 c, .bool kept, ev, .int .i64 si, .int .i64 st, x, y, z, str sd, m1, m2, m3, m4]
set_option maxHeartbeats 2000000 in
theorem save_wal (t v c : Int) (kept : Bool) (ev : Value) (es : List EntP) (si st : Int) (x y z : Value) (sc : Conf) (sd : List UInt8) (am1 am2 am3 am4 : Option Addr) (n1 n2 n3 n4 k1 k2 k3 k4 : Nat) (F : Nat → Prop) (w : World) (hE : Ents F w ev es) (hc : Config3 w x y z sc) (hn : es.length ≤ 3518437208883)
    (ht : 0 ≤ t ∧ t ≤ 1099511627775) (hv : 0 ≤ v ∧ v ≤ 1099511627775) (hC : 0 ≤ c ∧ c ≤ 1099511627775) :
    Calls Try.prog 5 #[.agg (cellsR t v c kept ev si st x y z sd (.slice am1 n1 k1) (.slice am2 n2 k2) (.slice am3 n3 k3) (.slice am4 n4 k4))] w fun e w' => ∃ v', e = .returned v' ∧ OwnA w.heap.size w' v' (saveA kept t v c es si st sc sd) ∧ Below w.heap.size w w' := by
  obtain ⟨post, HP⟩ := hide (fun (e : Ending) (w' : World) => ∃ v', e = .returned v' ∧ OwnA w.heap.size w' v' (saveA kept t v c es si st sc sd) ∧ Below w.heap.size w w')
  rw [HP.out]
  obtain ⟨ao1, cp1, rfl, _⟩ := len_of_Ints hc.v
  obtain ⟨ao2, cp2, rfl, _⟩ := len_of_Ints hc.n
  obtain ⟨ao3, cp3, rfl, _⟩ := len_of_Ints hc.l
  obtain ⟨ae, ce, rfl, _, _⟩ := hE.slice
  obtain ⟨t, rfl⟩ : ∃ n : Nat, t = n := ⟨t.toNat, by omega⟩
  obtain ⟨v, rfl⟩ : ∃ n : Nat, v = n := ⟨v.toNat, by omega⟩
  obtain ⟨c, rfl⟩ : ∃ n : Nat, c = n := ⟨c.toNat, by omega⟩
  obtain ⟨W, hW⟩ := hide (w.alloc (.cells (cellsR t v c kept (.slice ae es.length ce) si st (.slice ao1 sc.v.length cp1) (.slice ao2 sc.n.length cp2) (.slice ao3 sc.l.length cp3) sd (.slice am1 n1 k1) (.slice am2 n2 k2) (.slice am3 n3 k3) (.slice am4 n4 k4)) 41))
  obtain ⟨B, hB⟩ := hide w.heap.size
  have h0 : W.heap[B]? = some (.cells (cellsR t v c kept (.slice ae es.length ce) si st (.slice ao1 sc.v.length cp1) (.slice ao2 sc.n.length cp2) (.slice ao3 sc.l.length cp3) sd (.slice am1 n1 k1) (.slice am2 n2 k2) (.slice am3 n3 k3) (.slice am4 n4 k4)) 41 (0, 0)) := by rw [← hW.out, ← hB.out]; exact hp_at _ _ rfl
  have HbW : Hid (Below w.heap.size w W) := by show Below _ _ _; rw [← hW.out]; exact (Below.refl _ _).alloc (Nat.le_refl _) _
  have c0 := cell_n h0 0 (v := .int .i64 (t : Int)) rfl
  have c1 := cell_n h0 1 (v := .int .i64 (v : Int)) rfl
  have c2 := cell_n h0 2 (v := .int .i64 (c : Int)) rfl
  have c3 := cell_n h0 3 (v := .bool kept) rfl
  have c4 := cell_n h0 4 (v := .slice ae es.length ce) rfl
  have c5 := cell_n h0 5 (v := .int .i64 si) rfl
  by_cases hsi : 0 < si
  · have c6 := cell_n h0 6 (v := .int .i64 st) rfl
    have c7 := cell_n h0 7 (v := .slice ao1 sc.v.length cp1) rfl
    have c8 := cell_n h0 8 (v := .slice ao2 sc.n.length cp2) rfl
    have c9 := cell_n h0 9 (v := .slice ao3 sc.l.length cp3) rfl
    have c10 := cell_n h0 10 (v := str sd) rfl
    have t0 : decide (0 < si) = true := decide_eq_true hsi
    have HR := Lib.hid (rewrite_wal ⟨t, v, c, 0, 0, es, si, st, sc, sd, noC⟩ _ _ _ _ _ _ _ F W (hE.frame (Plain.good _) (Agree.below HbW.out)) (hc.mono HbW.out) (Config3.nil W) hn ht hv hC (by have := putSnapB_len si st sc sd; simp only; omega))
    have HP2 : Hid (∀ v' w', OwnA W.heap.size w' v' (cutA (cutD t v c es si st sc sd)) → Below W.heap.size W w' → post (.returned v') w') := by
      show ∀ v' w', _ → _ → _
      intro v' w' ho hb2
      rw [← HP.out]
      refine ⟨v', rfl, ?_, HbW.out.trans (hb2.mono HbW.out.size)⟩
      rw [saveA, if_pos hsi]
      exact own_base ho HbW.out.size
    clear hE hc hn ht hv hC h0 hsi
    go_enter Try.func5, Try.ntmps5
    go_upto_region 1 with fail
    rw [hW.out, hB.out]
    go_wp2_with fail
    refine HR.out.mono ?_
    rintro e w1 ⟨v', rfl, ho, hb1⟩
    have Hq := Lib.hid (HP2.out _ _ ho hb1)
    obtain ⟨a, cc, rfl⟩ := owns_slice ho
    clear ho hb1 c0 c1 c2 c3 c4 c5 c6 c7 c8 c9 c10
    go_wp2_with fail
    exact Hq.out
  · have t0 : decide (0 < si) = false := decide_eq_false hsi
    have HH : Hid (∀ w1, Calls Try.prog 12 #[.agg #[.int .i64 t, .int .i64 v, .int .i64 c]] w1 fun e w' => e = .returned (str (hardB t v c)) ∧ Below w1.heap.size w1 w') := fun w1 => hard_wal t v c w1 (by omega) (by omega) (by omega)
    have HN : Hid (∀ w1, Below W.heap.size W w1 → Calls Try.prog 13 #[.slice ae es.length ce] w1 fun e w' => e = .returned (str (entsB es)) ∧ Below w1.heap.size w1 w') := fun w1 hb => ents_wal _ es F w1 ((hE.frame (Plain.good _) (Agree.below HbW.out)).frame (Plain.good _) (Agree.below hb)) hn
    have hd : ∀ s, s = saveD kept t v c es → saveA kept t v c es si st sc sd = if s = [] then [] else [⟨2, nLog, [], s, 0⟩, ⟨3, nLog, [], [], 0⟩] := by
      rintro s rfl
      rw [saveA, if_neg hsi]
    have Hend : Hid (∀ s U, s = saveD kept t v c es → Below W.heap.size W U → (s = [] → post (.returned (.slice none 0 0)) U) ∧ (s ≠ [] → post (.returned (.slice (some ⟨U.heap.size, 0, none⟩) 2 2)) (U.alloc (.cells (([⟨2, nLog, [], s, 0⟩, ⟨3, nLog, [], [], 0⟩] : List ActP).flatMap rowA).toArray 45)))) := by
      show ∀ s U, _ → _ → _
      intro s U hs hbU
      have hbU2 : Below w.heap.size w U := HbW.out.trans (hbU.mono HbW.out.size)
      constructor
      · intro h1
        rw [← HP.out]
        refine ⟨_, rfl, ?_, hbU2⟩
        rw [hd s hs, if_pos h1]
        exact own_nil' _ _
      · intro h1
        rw [← HP.out]
        refine ⟨_, rfl, ?_, hbU2.alloc hbU2.size _⟩
        rw [hd s hs, if_neg h1]
        exact own_lit rowA rowA_len (l := [⟨2, nLog, [], s, 0⟩, ⟨3, nLog, [], [], 0⟩]) (hp_at _ _ rfl) hbU2.size (by show 2 ≤ maxLen; decide)
    have hl2 : (hardB t v c).length ≤ 65549 := recB_len 1 _
    have hl3 := entsB_len es
    have hsum : (hardB t v c).length + (entsB es).length ≤ 230636480640000000 := by omega
    have HD1 : Hid (saveD true t v c es = hardB t v c ++ entsB es) := rfl
    have HD0 : Hid (saveD false t v c es = entsB es) := rfl
    obtain ⟨r2, hr2⟩ := hide (hardB t v c)
    obtain ⟨r3, hr3⟩ := hide (entsB es)
    rw [hr2.out] at HH hl2 hsum HD1
    rw [hr3.out] at HN hl3 hsum HD1 HD0
    clear hE hc hn ht hv hC h0 hsi hd
    cases kept with
    | true =>
      rw [HD1.out] at Hend
      go_enter Try.func5, Try.ntmps5
      go_upto_region 1 with fail
      rw [hW.out, hB.out]
      go_wp2_with fail
      refine (HH.out _).mono ?_
      rintro e w1 ⟨rfl, hb1⟩
      have Hb1 := Lib.hid hb1
      have d4 : w1.cell? ⟨B, 4, none⟩ = some (.slice ae es.length ce) := by rw [hb1.cell (p := ⟨B, 4, none⟩) (lt_of_cell c4)]; exact c4
      clear hb1 c0 c1 c2 c3 c4 c5
      go_wp2_with fail
      refine (HN.out _ Hb1.out).mono ?_
      rintro e w2 ⟨rfl, hb2⟩
      have Hb2 := Lib.hid (Hb1.out.trans (hb2.mono Hb1.out.size))
      have HQ := Lib.hid (Hend.out (r2 ++ r3) w2 rfl Hb2.out)
      clear hb2 d4
      by_cases hz : r2 ++ r3 = []
      · have hz1 : (r2 ++ r3 == []) = true := by rw [hz]; rfl
        have Hq := Lib.hid (HQ.out.1 hz)
        clear hz
        go_wp2_with fail
        exact Hq.out
      · have hz1 : (r2 ++ r3 == []) = false := beq_eq_false_iff_ne.2 hz
        have Hq := Lib.hid (HQ.out.2 hz)
        clear hz
        go_wp2_with fail
        exact Hq.out
    | false =>
      rw [HD0.out] at Hend
      go_enter Try.func5, Try.ntmps5
      go_upto_region 1 with fail
      rw [hW.out, hB.out]
      go_wp2_with fail
      refine (HN.out _ (Below.refl _ _)).mono ?_
      rintro e w2 ⟨rfl, hb2⟩
      have Hb2 := Lib.hid hb2
      have HQ := Lib.hid (Hend.out r3 w2 rfl Hb2.out)
      clear hb2 c0 c1 c2 c3 c4 c5
      by_cases hz : r3 = []
      · have hz1 : (r3 == []) = true := by rw [hz]; rfl
        have Hq := Lib.hid (HQ.out.1 hz)
        clear hz
        go_wp2_with fail
        exact Hq.out
      · have hz1 : (r3 == []) = false := beq_eq_false_iff_ne.2 hz
        have Hq := Lib.hid (HQ.out.2 hz)
        clear hz
        go_wp2_with fail
        exact Hq.out
end Go.Proofs.Ytjlhlmnoomiblaa
