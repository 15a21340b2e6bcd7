/-
  What a node keeps, written by the program (package wal): records, hard state, entries, the file anew, Save, Cut.
-/
import Derived.Test.YtjlhlmnoomiblaaZ22
import Derived.Test.YtjlhlmnoomiblaaZ18
import Derived.Test.YtjlhlmnoomiblaaZ13
import Derived.Lib.QuietBelow
import Derived.BigQuiet
import Derived.Deep.Cut
namespace Go.Proofs.Ytjlhlmnoomiblaa
open Go.RowKit Wm Mm Lg Fl
set_option linter.unusedVariables false
set_option linter.unusedSimpArgs false

abbrev rowA (a : ActP) : List Value := [.int .i64 a.what, str a.nam, str a.to, str a.dat, .int .i64 a.size]
theorem rowA_len (a : ActP) : (rowA a).length = 5 := rfl
theorem rowA_one (a : ActP) : ∀ u ∈ rowA a, u.oneCell' = true := by intro u hu; simp at hu; rcases hu with rfl | rfl | rfl | rfl | rfl <;> rfl
abbrev Acs (F : Nat → Prop) (w : World) (v : Value) (l : List ActP) : Prop := Sl 5 (Plain rowA) F w v l
abbrev OwnA (S : Nat) (w : World) (v : Value) (l : List ActP) : Prop := w.ownsRow S 45 5 v l.length (l.flatMap rowA)
theorem OwnA.acs {S : Nat} {w : World} {v : Value} {l : List ActP} (h : OwnA S w v l) : Acs (fun k => S ≤ k) w v l := Sl.own rowA rowA_len h (fun _ _ => rfl) (fun _ _ h _ => h)
theorem own_lit {α : Type} {w : World} {S g size : Nat} {e : TypeId} {l : List α} (row : α → List Value) (hrow : ∀ y, (row y).length = size) (hg : w.heap[g]? = some (.cells (l.flatMap row).toArray e (0, 0))) (hS : S ≤ g) (hl : l.length ≤ maxLen) :
    w.ownsRow S e size (.slice (some ⟨g, 0, none⟩) l.length l.length) l.length (l.flatMap row) := by
  have hf := flat_len row hrow l
  exact ⟨hf, Or.inr ⟨g, l.length, (l.flatMap row).toArray, rfl, hS, hg, Nat.le_refl _, hl, by simpa using hf, by simpa using List.take_of_length_le (by omega)⟩⟩
theorem recB_len (k : UInt8) (b : List UInt8) : (recB k b).length ≤ 65549 := by
  unfold recB frameB
  split
  · simp
  · exact frame_len _ (by omega)
theorem entsB_len : ∀ l : List EntP, (entsB l).length ≤ l.length * 65549
  | [] => by simp [entsB]
  | a :: r => by
    have := entsB_len r
    have h2 : (entB a).length ≤ 65549 := recB_len 2 _
    simp only [entsB, List.flatMap_cons, List.length_append, List.length_cons]
    unfold entsB at this
    omega
theorem entsB_snoc (l : List EntP) (e : EntP) : entsB (l ++ [e]) = entsB l ++ entB e := by simp [entsB]
theorem putNums3 (t v c : Nat) : putNums [t, v, c] = putNum t ++ (putNum v ++ putNum c) := by simp [putNums]

set_option maxHeartbeats 1000000 in
theorem frame_wal (k : Int) (b : List UInt8) (w : World) (hb : b.length ≤ 140737488355000) :
    Calls Try.prog 22 #[.int .u8 k, str b] w fun e w' => e = .returned (str (recB (UInt8.ofNat k.toNat) b)) ∧ Below w.heap.size w w' := by
  obtain ⟨W, hW⟩ := hide (w.alloc (.cells #[.int .u8 k] 5))
  have hb0 : Hid (Below w.heap.size w W) := by show Below _ _ _; rw [← hW.out]; exact (Below.refl _ _).alloc (Nat.le_refl _) _
  have HF := Lib.hid (wire_frame (UInt8.ofNat k.toNat :: b) W (by simp; omega))
  have hl : 1 + b.length ≤ 140737488355001 := by omega
  obtain ⟨q, hq⟩ := hide (frameB (UInt8.ofNat k.toNat :: b))
  have Hq : Hid (recB (UInt8.ofNat k.toNat) b = q) := hq.out
  rw [hq.out] at HF
  rw [Hq.out]
  have kc := toStr1
  clear hb
  go_enter Try.func22, Try.ntmps22
  go_wp2_with fail
  rw [hW.out]
  refine HF.out.mono ?_
  rintro e w1 ⟨rfl, hb1⟩
  have Hb1 := Lib.hid (hb0.out.trans (hb1.mono hb0.out.size))
  clear hb1
  go_wp2_with fail
  go_ret
  exact ⟨rfl, Hb1.out⟩
set_option maxHeartbeats 1000000 in
theorem hard_wal (t v c : Nat) (w : World) (ht : t < 9223372036854775808) (hv : v < 9223372036854775808) (hc : c < 9223372036854775808) :
    Calls Try.prog 12 #[.agg #[.int .i64 t, .int .i64 v, .int .i64 c]] w fun e w' => e = .returned (str (hardB t v c)) ∧ Below w.heap.size w w' := by
  obtain ⟨W0, hW0⟩ := hide (w.alloc (.cells #[.int .i64 t, .int .i64 v, .int .i64 c] 26))
  obtain ⟨B, hB⟩ := hide w.heap.size
  have h0 : W0.heap[B]? = some (.cells #[.int .i64 t, .int .i64 v, .int .i64 c] 26 (0, 0)) := by rw [← hW0.out, ← hB.out]; exact hp_at _ _ rfl
  have c0 := cell_n h0 0 (v := .int .i64 t) rfl
  have c1 := cell_n h0 1 (v := .int .i64 v) rfl
  have c2 := cell_n h0 2 (v := .int .i64 c) rfl
  have hb0 : Below w.heap.size w W0 := by rw [← hW0.out]; exact (Below.refl _ _).alloc (Nat.le_refl _) _
  obtain ⟨W, hW⟩ := hide (W0.alloc (.cells #[.int .i64 t, .int .i64 v, .int .i64 c] 3))
  obtain ⟨C, hC⟩ := hide W0.heap.size
  have hbW : Hid (Below w.heap.size w W) := by show Below _ _ _; rw [← hW.out]; exact hb0.alloc hb0.size _
  have hi : Ints W (.slice (some ⟨C, 0, none⟩) 3 3) (ints [t, v, c]) := by
    have h1 : W.heap[C]? = some (.cells #[.int .i64 t, .int .i64 v, .int .i64 c] 3 (0, 0)) := by rw [← hW.out, ← hC.out]; exact hp_at _ _ rfl
    refine ⟨some ⟨C, 0, none⟩, 3, rfl, fun _ => ⟨C, 0, rfl, fun j x hx => ?_⟩, by show 3 ≤ maxLen; decide⟩
    rw [Nat.zero_add]
    refine cell_n h1 j ?_
    match j, hx with
    | 0, hx => injection hx with hx; subst hx; rfl
    | 1, hx => injection hx with hx; subst hx; rfl
    | 2, hx => injection hx with hx; subst hx; rfl
    | j + 3, hx => simp [ints] at hx
  have HP := Lib.hid (wire_putNumbers _ [t, v, c] W hi (by intro n hn; simp at hn; rcases hn with rfl | rfl | rfl <;> assumption) (by show 3 ≤ 1000000; decide))
  have e1 : putNums [t, v, c] = putNum t ++ (putNum v ++ putNum c) := putNums3 t v c
  obtain ⟨q, hq⟩ := hide (putNum t ++ (putNum v ++ putNum c))
  rw [e1, hq.out] at HP
  have hql : q.length ≤ 40 := by
    rw [← hq.out]
    have g1 := putNum_len10 ht
    have g2 := putNum_len10 hv
    have g3 := putNum_len10 hc
    simp only [List.length_append]
    omega
  have Hr : Hid (hardB t v c = recB 1 q) := by show _ = _; rw [← hq.out]; rfl
  have HF : Hid (∀ w1, Calls Try.prog 22 #[.int .u8 1, str q] w1 fun e w' => e = .returned (str (recB 1 q)) ∧ Below w1.heap.size w1 w') := fun w1 => frame_wal 1 q w1 (by omega)
  obtain ⟨r, hr⟩ := hide (recB 1 q)
  rw [hr.out] at HF Hr
  rw [Hr.out]
  clear h0 hb0 hi e1 hql ht hv hc
  go_enter Try.func12, Try.ntmps12
  go_upto_region 1 with fail
  rw [hW0.out, hB.out]
  go_wp2_with fail
  rw [hW.out, hC.out]
  refine HP.out.mono ?_
  rintro e w1 ⟨rfl, hb1⟩
  have Hb1 := Lib.hid (hbW.out.trans (hb1.mono hbW.out.size))
  clear hb1 c0 c1 c2
  go_wp2_with fail
  refine (HF.out _).mono ?_
  rintro e w2 ⟨rfl, hb2⟩
  have Hb2 := Lib.hid (Hb1.out.trans (hb2.mono Hb1.out.size))
  clear hb2
  go_wp2_with fail
  go_ret
  exact ⟨rfl, Hb2.out⟩
theorem Sl.fourE {F : Nat → Prop} {w : World} {a : Option Addr} {n c : Nat} {l : List EntP} (h : Ents F w (.slice a n c) l) {k : Nat} (hk : k < l.length) :
    ∃ b off, a = some ⟨b, off, none⟩ ∧ w.cell? ⟨b, off + k * 4, none⟩ = some (.int .i64 l[k].idx) ∧ w.cell? ⟨b, off + k * 4 + 1, none⟩ = some (.int .i64 l[k].trm) ∧ w.cell? ⟨b, off + k * 4 + 2, none⟩ = some (.int .i64 l[k].knd) ∧ w.cell? ⟨b, off + k * 4 + 3, none⟩ = some (str l[k].dat) := by
  obtain ⟨b, off, us, e, _, _, hus, hcs⟩ := h.at hk
  have hus' : us = rowE l[k] := hus
  subst hus'
  exact ⟨b, off, e, hcs 0 _ rfl, hcs 1 _ rfl, hcs 2 _ rfl, hcs 3 _ rfl⟩
theorem putEntB_len (i t k : Int) (d : List UInt8) : (putEntB i t k d).length ≤ 292 := by
  unfold putEntB
  split
  · rename_i h
    obtain ⟨a, b, c, rfl, rfl, rfl, h1, h2, h3, h4⟩ := isEntry_facts h
    exact putEnt_len a b c d h1 h2 h3 h4
  · simp
set_option maxHeartbeats 1000000 in
theorem ents_wal (v : Value) (es : List EntP) (F : Nat → Prop) (w : World) (h : Ents F w v es) (hn : es.length ≤ 3518437208883) :
    Calls Try.prog 13 #[v] w fun e w' => e = .returned (str (entsB es)) ∧ Below w.heap.size w w' := by
  obtain ⟨ao, cap, rfl, hcap, hmax⟩ := h.slice
  have HF : Hid (∀ w', Below w.heap.size w w' → Ents F w' (.slice ao es.length cap) es) := fun w' hb => h.frame (Plain.good _) (Agree.below hb)
  have HR : Hid (∀ b : List UInt8, b.length ≤ 300 → ∀ w1, Calls Try.prog 22 #[.int .u8 2, str b] w1 fun e w' => e = .returned (str (recB 2 b)) ∧ Below w1.heap.size w1 w') := fun b hb w1 => frame_wal 2 b w1 (by omega)
  clear h hmax
  go_enter Try.func13, Try.ntmps13
  go_wp2_with fail
  go_loopw [3, 10] (fun s i wr => ∃ (k : Nat) (acc : List UInt8), i = .int .i64 k ∧ s = str acc ∧ k ≤ es.length ∧ Hid (acc = entsB (es.take k)) ∧ Hid (Below w.heap.size w wr)) (fun _ i _ => es.length - (intOf i).toNat)
  case atStart => exact ⟨0, [], rfl, rfl, Nat.zero_le _, rfl, Below.refl _ _⟩
  case round =>
    obtain ⟨k, acc, rfl, rfl, hk, ha, hb⟩ := hrel
    by_cases hlt : k < es.length
    · obtain ⟨b, off, rfl, c0, c1, c2, c3⟩ := Sl.fourE (HF.out _ hb.out) hlt
      have hacc : acc.length ≤ 230636480630000000 := by
        rw [ha.out]
        have := entsB_len (es.take k)
        rw [List.length_take] at this
        omega
      have Hn : Hid (acc ++ entB es[k] = entsB (es.take (k + 1))) := by
        show _ = _
        rw [ha.out, ← entsB_snoc, List.take_add_one, List.getElem?_eq_getElem hlt]
        rfl
      obtain ⟨y, hy⟩ := hide es[k]
      rw [hy.out] at c0 c1 c2 c3 Hn
      obtain ⟨V, hV⟩ := hide (wr.alloc (.cells (rowE y).toArray 37))
      obtain ⟨C, hC⟩ := hide wr.heap.size
      have h1 : V.heap[C]? = some (.cells (rowE y).toArray 37 (0, 0)) := by rw [← hV.out, ← hC.out]; exact hp_at _ _ rfl
      have d0 := cell_n h1 0 (v := .int .i64 y.idx) rfl
      have d1 := cell_n h1 1 (v := .int .i64 y.trm) rfl
      have d2 := cell_n h1 2 (v := .int .i64 y.knd) rfl
      have d3 := cell_n h1 3 (v := str y.dat) rfl
      have HbV : Hid (Below w.heap.size w V) := by show Below _ _ _; rw [← hV.out]; exact hb.out.alloc hb.out.size _
      have HP := Lib.hid (wire_putEntry y.idx y.trm y.knd y.dat V)
      have hql := putEntB_len y.idx y.trm y.knd y.dat
      have HR2 := HR.out (putEntB y.idx y.trm y.knd y.dat) (by omega)
      have hrl := recB_len 2 (putEntB y.idx y.trm y.knd y.dat)
      have Hn2 : Hid (acc ++ recB 2 (putEntB y.idx y.trm y.knd y.dat) = entsB (es.take (k + 1))) := Hn.out
      obtain ⟨q, hq⟩ := hide (putEntB y.idx y.trm y.knd y.dat)
      obtain ⟨z, hz⟩ := hide (putEntE y.idx y.trm y.knd y.dat)
      rw [hq.out] at HP HR2 hrl Hn2
      rw [hz.out] at HP
      obtain ⟨r, hr⟩ := hide (recB 2 q)
      rw [hr.out] at HR2 hrl Hn2
      have HR3 := Lib.hid HR2
      have hsum : acc.length + r.length ≤ 230636480630100000 := by omega
      clear h1 HR2 hql hrl hacc
      go_upto_region 5 with fail
      rw [hV.out, hC.out]
      clear c0 c1 c2 c3
      go_wp2_with fail
      refine HP.out.mono ?_
      rintro e w2 ⟨rfl, hb2⟩
      have Hb2 := Lib.hid (HbV.out.trans (hb2.mono HbV.out.size))
      clear hb2 d0 d1 d2 d3
      go_wp2_with fail
      refine (HR3.out _).mono ?_
      rintro e w3 ⟨rfl, hb3⟩
      have Hb3 := Lib.hid (Hb2.out.trans (hb3.mono Hb2.out.size))
      clear hb3
      go_wp2_with fail
      go_roundw
      case rel => exact ⟨k + 1, acc ++ r, by go_num, rfl, hlt, Hn2, Hb3⟩
      case measure => simp [intOf]; omega
    · obtain rfl : k = es.length := by omega
      have He : Hid (acc = entsB es) := by show _ = _; rw [ha.out, List.take_length]
      go_wp2_with fail
      go_ret
      exact ⟨by rw [He.out] <;> rfl, hb.out⟩
abbrev cellsK (k : Kp) (ev x y z cx cy cz : Value) : Array Value := #[.int .i64 k.t, .int .i64 k.v, .int .i64 k.c, .int .i64 k.base, .int .i64 k.bt, ev, .int .i64 k.si, .int .i64 k.st, x, y, z, str k.sd, cx, cy, cz]
set_option maxHeartbeats 2000000 in
theorem rewrite_wal (k : Kp) (ev x y z cx cy cz : Value) (F : Nat → Prop) (w : World) (hE : Ents F w ev k.es) (hc : Config3 w x y z k.sc) (hcf : Config3 w cx cy cz k.cf) (hn : k.es.length ≤ 3518437208883)
    (ht : 0 ≤ k.t ∧ k.t ≤ 1099511627775) (hv : 0 ≤ k.v ∧ k.v ≤ 1099511627775) (hC : 0 ≤ k.c ∧ k.c ≤ 1099511627775) (hsd : (putSnapB k.si k.st k.sc k.sd).length ≤ 1000000) :
    Calls Try.prog 11 #[.agg (cellsK k ev x y z cx cy cz)] w fun e w' => ∃ v', e = .returned v' ∧ OwnA w.heap.size w' v' (cutA (cutD k.t k.v k.c k.es k.si k.st k.sc k.sd)) ∧ Below w.heap.size w w' := by
  obtain ⟨post, HP⟩ := hide (fun (e : Ending) (w' : World) => ∃ v', e = .returned v' ∧ OwnA w.heap.size w' v' (cutA (cutD k.t k.v k.c k.es k.si k.st k.sc k.sd)) ∧ Below w.heap.size w w')
  rw [HP.out]
  obtain ⟨ao1, cp1, rfl, _⟩ := len_of_Ints hc.v
  obtain ⟨ao2, cp2, rfl, _⟩ := len_of_Ints hc.n
  obtain ⟨ao3, cp3, rfl, _⟩ := len_of_Ints hc.l
  obtain ⟨ao4, cp4, rfl, _⟩ := len_of_Ints hcf.v
  obtain ⟨ao5, cp5, rfl, _⟩ := len_of_Ints hcf.n
  obtain ⟨ao6, cp6, rfl, _⟩ := len_of_Ints hcf.l
  obtain ⟨ae, ce, rfl, _, _⟩ := hE.slice
  obtain ⟨t, v, c, base, bt, es, si, st, sc, sd, cf⟩ := k
  dsimp only at *
  obtain ⟨t, rfl⟩ : ∃ n : Nat, t = n := ⟨t.toNat, by omega⟩
  obtain ⟨v, rfl⟩ : ∃ n : Nat, v = n := ⟨v.toNat, by omega⟩
  obtain ⟨c, rfl⟩ : ∃ n : Nat, c = n := ⟨c.toNat, by omega⟩
  obtain ⟨C, hCC⟩ := hide (#[Value.int .i64 t, .int .i64 v, .int .i64 c, .int .i64 base, .int .i64 bt, .slice ae es.length ce, .int .i64 si, .int .i64 st, .slice ao1 sc.v.length cp1, .slice ao2 sc.n.length cp2, .slice ao3 sc.l.length cp3, str sd, .slice ao4 cf.v.length cp4, .slice ao5 cf.n.length cp5, .slice ao6 cf.l.length cp6])
  obtain ⟨W, hW⟩ := hide (w.alloc (.cells #[Value.int .i64 t, .int .i64 v, .int .i64 c, .int .i64 base, .int .i64 bt, .slice ae es.length ce, .int .i64 si, .int .i64 st, .slice ao1 sc.v.length cp1, .slice ao2 sc.n.length cp2, .slice ao3 sc.l.length cp3, str sd, .slice ao4 cf.v.length cp4, .slice ao5 cf.n.length cp5, .slice ao6 cf.l.length cp6] 33))
  obtain ⟨B, hB⟩ := hide w.heap.size
  have h0 : W.heap[B]? = some (.cells #[Value.int .i64 t, .int .i64 v, .int .i64 c, .int .i64 base, .int .i64 bt, .slice ae es.length ce, .int .i64 si, .int .i64 st, .slice ao1 sc.v.length cp1, .slice ao2 sc.n.length cp2, .slice ao3 sc.l.length cp3, str sd, .slice ao4 cf.v.length cp4, .slice ao5 cf.n.length cp5, .slice ao6 cf.l.length cp6] 33 (0, 0)) := by rw [← hW.out, ← hB.out]; exact hp_at _ _ rfl
  have HbW : Hid (Below w.heap.size w W) := by show Below _ _ _; rw [← hW.out]; exact (Below.refl _ _).alloc (Nat.le_refl _) _
  have c6 := cell_n h0 6 (v := .int .i64 si) rfl
  have c7 := cell_n h0 7 (v := .int .i64 st) rfl
  have c8 := cell_n h0 8 (v := .slice ao1 sc.v.length cp1) rfl
  have c9 := cell_n h0 9 (v := .slice ao2 sc.n.length cp2) rfl
  have c10 := cell_n h0 10 (v := .slice ao3 sc.l.length cp3) rfl
  have c11 := cell_n h0 11 (v := str sd) rfl
  have HS := Lib.hid (wire_putSnapshot si st _ _ _ sc sd W (hc.mono HbW.out))
  obtain ⟨q, hq⟩ := hide (putSnapB si st sc sd)
  obtain ⟨qz, hqz⟩ := hide (putSnapE si st sc sd)
  rw [hq.out, hqz.out] at HS
  rw [hq.out] at hsd
  have H0 := Lib.hid h0
  have HE := Lib.hid hE
  have hd : cutD (t : Int) (v : Int) (c : Int) es si st sc sd = recB 3 q ++ (hardB t v c ++ entsB es) := by rw [← hq.out]; rfl
  have hl1 := recB_len 3 q
  have hl2 : (hardB t v c).length ≤ 65549 := recB_len 1 _
  have hl3 := entsB_len es
  have HR : Hid (∀ w1, Calls Try.prog 22 #[.int .u8 3, str q] w1 fun e w' => e = .returned (str (recB 3 q)) ∧ Below w1.heap.size w1 w') := fun w1 => frame_wal 3 q w1 (by omega)
  have HH : Hid (∀ w1, Calls Try.prog 12 #[.agg #[.int .i64 t, .int .i64 v, .int .i64 c]] w1 fun e w' => e = .returned (str (hardB t v c)) ∧ Below w1.heap.size w1 w') := fun w1 => hard_wal t v c w1 (by omega) (by omega) (by omega)
  have HN : Hid (∀ w1, Below w.heap.size w w1 → Calls Try.prog 13 #[.slice ae es.length ce] w1 fun e w' => e = .returned (str (entsB es)) ∧ Below w1.heap.size w1 w') := fun w1 hb => ents_wal _ es F w1 (hE.frame (Plain.good _) (Agree.below hb)) hn
  obtain ⟨r1, hr1⟩ := hide (recB 3 q)
  obtain ⟨r2, hr2⟩ := hide (hardB t v c)
  obtain ⟨r3, hr3⟩ := hide (entsB es)
  rw [hr1.out] at HR hd hl1
  rw [hr2.out] at HH hd hl2
  rw [hr3.out] at HN hd hl3
  have hs1 : r1.length + r2.length ≤ 131098 := by omega
  have hs2 : r1.length + r2.length + r3.length ≤ 230636480640000000 := by omega
  have Hd := Lib.hid hd
  clear hE hc hcf hn ht hv hC hd hl1 hl2 hl3 h0 hsd
  go_enter Try.func11, Try.ntmps11
  go_upto_region 1 with fail
  rw [hW.out, hB.out]
  go_wp2_with fail
  refine HS.out.mono ?_
  rintro e w1 ⟨rfl, hb1⟩
  have Hb1 : Hid (Below w.heap.size w w1) := HbW.out.trans (hb1.mono HbW.out.size)
  have HB1 : Hid (w1.heap[B]? = _) := (hb1.block B (lt_of_block H0.out)).trans H0.out
  clear hb1 c6 c7 c8 c9 c10 c11
  dsimp only
  go_upto_region 2 with fail
  go_cut [5] from 12 to 22 (fun s5 wx => s5 = str (r1 ++ (r2 ++ r3)) ∧ Hid (Below w1.heap.size w1 wx))
  case first =>
    have c0 := fun (dd : Nat) (os : Array Obj) => cell_regrown (cell_n HB1.out 0 (v := .int .i64 t) rfl) dd os
    have c1 := fun (dd : Nat) (os : Array Obj) => cell_regrown (cell_n HB1.out 1 (v := .int .i64 v) rfl) dd os
    have c2 := fun (dd : Nat) (os : Array Obj) => cell_regrown (cell_n HB1.out 2 (v := .int .i64 c) rfl) dd os
    have c5 := fun (dd : Nat) (os : Array Obj) => cell_regrown (cell_n HB1.out 5 (v := .slice ae es.length ce) rfl) dd os
    have HNr : Hid (∀ (dd : Nat) (os : Array Obj), Calls Try.prog 13 #[.slice ae es.length ce] (Sort.grow (redrawn w1 dd) os) fun e w'' => e = .returned (str r3) ∧ Below (Sort.grow (redrawn w1 dd) os).heap.size (Sort.grow (redrawn w1 dd) os) w'') := fun dd os => HN.out _ (Hb1.out.trans ((below_regrown w1 dd os).mono Hb1.out.size))
    refine wp_region_quiet_below (by kernel_rfl) (by kernel_rfl) ?_
    repeat (go_big_quiet_step (first | (go_at_call 22; with_reducible refine Calls.regrown_of (HR.out _)) | (go_at_call 12; with_reducible refine Calls.regrown_of (HH.out _)) | (go_at_call 13; with_reducible refine Calls.regrown_of (HNr.out _ _))))
    refine wpQuiet_nil ?_
    intro _ hw'
    obtain ⟨⟨dq, osq⟩, hw''⟩ := hw'
    subst hw''
    go_wp2
    go_meet
    exact ⟨rfl, below_regrown w1 dq osq⟩
  case rest =>
    obtain ⟨U, hU⟩ : ∃ U, U = wc := ⟨_, rfl⟩
    subst hU
    obtain ⟨rfl, hbU⟩ := hcut
    have HbU : Hid (Below w.heap.size w U) := Hb1.out.trans (hbU.out.mono Hb1.out.size)
    have Hq : Hid (∀ d, d = cutD (t : Int) (v : Int) (c : Int) es si st sc sd → post (.returned (.slice (some ⟨U.heap.size, 0, none⟩) 4 4)) (U.alloc (.cells ((cutA d).flatMap rowA).toArray 45))) := by
      show ∀ d, _ → _
      rintro d rfl
      rw [← HP.out]
      refine ⟨_, rfl, own_lit rowA rowA_len (l := cutA _) (hp_at _ _ rfl) ?_ (by show 4 ≤ maxLen; decide), ?_⟩
      · exact HbU.out.size
      · exact HbU.out.alloc HbU.out.size _
    have Hq2 := Lib.hid (Hq.out (r1 ++ (r2 ++ r3)) (by rw [Hd.out]))
    go_wp2_with fail
    exact Hq2.out
set_option maxHeartbeats 1000000 in
theorem cut_wal (k : Kp) (ev x y z cx cy cz : Value) (F : Nat → Prop) (w : World) (hE : Ents F w ev k.es) (hc : Config3 w x y z k.sc) (hcf : Config3 w cx cy cz k.cf) (hn : k.es.length ≤ 3518437208883)
    (ht : 0 ≤ k.t ∧ k.t ≤ 1099511627775) (hv : 0 ≤ k.v ∧ k.v ≤ 1099511627775) (hC : 0 ≤ k.c ∧ k.c ≤ 1099511627775) (hsd : (putSnapB k.si k.st k.sc k.sd).length ≤ 1000000) :
    Calls Try.prog 7 #[.agg (cellsK k ev x y z cx cy cz)] w fun e w' => ∃ v', e = .returned v' ∧ OwnA w.heap.size w' v' (cutA (cutD k.t k.v k.c k.es k.si k.st k.sc k.sd)) ∧ Below w.heap.size w w' := by
  obtain ⟨post, HP⟩ := hide (fun (e : Ending) (w' : World) => ∃ v', e = .returned v' ∧ OwnA w.heap.size w' v' (cutA (cutD k.t k.v k.c k.es k.si k.st k.sc k.sd)) ∧ Below w.heap.size w w')
  rw [HP.out]
  obtain ⟨ao1, cp1, rfl, _⟩ := len_of_Ints hc.v
  obtain ⟨ao2, cp2, rfl, _⟩ := len_of_Ints hc.n
  obtain ⟨ao3, cp3, rfl, _⟩ := len_of_Ints hc.l
  obtain ⟨ao4, cp4, rfl, _⟩ := len_of_Ints hcf.v
  obtain ⟨ao5, cp5, rfl, _⟩ := len_of_Ints hcf.n
  obtain ⟨ao6, cp6, rfl, _⟩ := len_of_Ints hcf.l
  obtain ⟨ae, ce, rfl, _, _⟩ := hE.slice
  obtain ⟨W, hW⟩ := hide (w.alloc (.cells (cellsK k (.slice ae k.es.length ce) (.slice ao1 k.sc.v.length cp1) (.slice ao2 k.sc.n.length cp2) (.slice ao3 k.sc.l.length cp3) (.slice ao4 k.cf.v.length cp4) (.slice ao5 k.cf.n.length cp5) (.slice ao6 k.cf.l.length cp6)) 33))
  have hb : Below w.heap.size w W := by rw [← hW.out]; exact (Below.refl _ _).alloc (Nat.le_refl _) _
  have h0 : W.heap[w.heap.size]? = some (.cells (cellsK k (.slice ae k.es.length ce) (.slice ao1 k.sc.v.length cp1) (.slice ao2 k.sc.n.length cp2) (.slice ao3 k.sc.l.length cp3) (.slice ao4 k.cf.v.length cp4) (.slice ao5 k.cf.n.length cp5) (.slice ao6 k.cf.l.length cp6)) 33 (0, 0)) := by rw [← hW.out]; exact hp_at _ _ rfl
  have HR := Lib.hid (rewrite_wal k _ _ _ _ _ _ _ F W (hE.frame (Plain.good _) (Agree.below hb)) (hc.mono hb) (hcf.mono hb) hn ht hv hC hsd)
  have Hb := Lib.hid hb
  have HP2 : Hid (∀ e w', (∃ v', e = .returned v' ∧ OwnA W.heap.size w' v' (cutA (cutD k.t k.v k.c k.es k.si k.st k.sc k.sd)) ∧ Below W.heap.size W w') → post e w') := by
    show ∀ e w', _ → _
    rintro e w' ⟨v', he, ho, hb2⟩
    rw [← HP.out]
    exact ⟨v', he, own_base ho Hb.out.size, Hb.out.trans (hb2.mono Hb.out.size)⟩
  obtain ⟨B, hB⟩ := hide w.heap.size
  rw [hB.out] at h0
  clear hE hc hcf hn ht hv hC hsd hb
  have c0 := cell_n h0 0 rfl
  have c1 := cell_n h0 1 rfl
  have c2 := cell_n h0 2 rfl
  have c3 := cell_n h0 3 rfl
  have c4 := cell_n h0 4 rfl
  have c5 := cell_n h0 5 rfl
  have c6 := cell_n h0 6 rfl
  have c7 := cell_n h0 7 rfl
  have c8 := cell_n h0 8 rfl
  have c9 := cell_n h0 9 rfl
  have c10 := cell_n h0 10 rfl
  have c11 := cell_n h0 11 rfl
  have c12 := cell_n h0 12 rfl
  have c13 := cell_n h0 13 rfl
  have c14 := cell_n h0 14 rfl
  clear h0
  go_enter Try.func7, Try.ntmps7
  go_upto_region 1 with fail
  rw [hW.out, hB.out]
  go_wp2_with fail
  refine HR.out.mono ?_
  rintro e w1 ⟨v', rfl, ho, hb1⟩
  have Hq := Lib.hid (HP2.out _ _ ⟨v', rfl, ho, hb1⟩)
  obtain ⟨a, cc, rfl⟩ := owns_slice ho
  clear ho hb1 c0 c1 c2 c3 c4 c5 c6 c7 c8 c9 c10 c11 c12 c13 c14
  go_wp2_with fail
  exact Hq.out
end Go.Proofs.Ytjlhlmnoomiblaa
