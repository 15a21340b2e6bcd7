/-
  What files say, read by the program (package wal): a record of an entry; any record.
-/
import Derived.Test.YtjlhlmnoomiblaaZ30
import Derived.Deep.RegionLaw
import Derived.Test.YtjlhlmnoomiblaaZ34
namespace Go.Proofs.Ytjlhlmnoomiblaa
open Go.RowKit Wm Mm Lg Fl
set_option linter.unusedVariables false
set_option linter.unusedSimpArgs false

theorem flatW_take : ∀ (l : List EntP) (k : Nat), (l.flatMap rowE).take (k * 4) = (l.take k).flatMap rowE
  | _, 0 => by simp
  | [], k + 1 => by simp
  | a :: r, k + 1 => by
    rw [List.flatMap_cons, show (k + 1) * 4 = k * 4 + 1 + 1 + 1 + 1 from by omega, List.take_succ_cons, List.flatMap_cons, ← flatW_take r k]
    rfl
abbrev cellsKe (k : Kp) (es : List EntP) (ev x y z cx cy cz : Value) : Array Value := cellsK { k with es := es } ev x y z cx cy cz
theorem ent_fin {N : Nat → Prop} {T P : Nat} {k : Kp} {ev x y z cx cy cz v9 : Value} {es' : List EntP} {W A w9 : World} (h : KeptAt N T W P k ev x y z cx cy cz) (hA : Below W.heap.size W A) (hg : A.grownBy w9 ev.ownBlock) (ho : OwnE T w9 v9 es') :
    KeptAt N T (w9.setCell ⟨P, 5, none⟩ v9) P { k with es := es' } v9 x y z cx cy cz ∧ Chg (FP T P) W (w9.setCell ⟨P, 5, none⟩ v9) := by
  have hA2 := h.below hA
  have hev : ∀ g, ev.ownBlock = some g → T ≤ g := fun g hg => (hA2.own.lt g hg).1
  have hc1 : Chg (fun b => T ≤ b) A w9 := Chg.grown hg hev
  have hc2 : Chg (fun b => b = P) w9 (w9.setCell ⟨P, 5, none⟩ v9) := Chg.setCell (F := fun b => b = P) (a := ⟨P, 5, none⟩) _ rfl _
  have hp : w9.heap[P]? = some (.cells (cellsK k ev x y z cx cy cz) 33 (0, 0)) := hc1.at hA2.blk (by have := h.pt; omega)
  have hag : Agree (fun b => b < T ∧ N b) A (w9.setCell ⟨P, 5, none⟩ v9) := (hc1.agree (fun b hb e => by omega)).trans (hc2.agree (fun b hb e => h.np (e ▸ hb.2)))
  have hPT := h.pt
  refine ⟨⟨?_, ?_, hA2.sc.frame hag, hA2.cf.frame hag, h.pt, Nat.le_trans hA2.ts hag.1, h.np, h.nt⟩, ((Chg.fresh _ hA).trans (hc1.mono (fun b _ hb => Or.inr hb))).trans (hc2.mono (fun b _ hb => Or.inl hb))⟩
  · exact at_set hp v9
  · refine own_chg ho hc2 (fun g hg e => ?_)
    have := (ho.lt g hg).1
    omega
def toEP (i t q : Int) (d : List UInt8) : EntP := ⟨i, t, q, d⟩
set_option maxHeartbeats 8000000 in
set_option maxRecDepth 100000 in
theorem rec_ent (N : Nat → Prop) (T P : Nat) (k : Kp) (ev x y z cx cy cz : Value) (s r : List UInt8) (w : World) (hk : KeptAt N T w P k ev x y z cx cy cz) (hi : InvK k) (hs : Body s 2 r) (hr : s.length ≤ 9223372036854775806) :
    Calls Try.prog 17 #[.pointer (some ⟨P, 0, none⟩), str s] w (RecPost N T P w (recEnt k r)) := by
  obtain ⟨post, HP⟩ := hide (RecPost N T P w (recEnt k r))
  rw [HP.out]
  obtain ⟨hl, hd, t0, hb1⟩ := hs
  have t1 : ((s[0].toNat : Int) == 1) = false := by rw [hb1]; rfl
  have t2 : ((s[0].toNat : Int) == 2) = true := by rw [hb1]; rfl
  have hl1 : 1 ≤ s.length := hl
  have hrl : r.length ≤ 9223372036854775806 := by rw [← hd, List.length_drop]; omega
  have HG := Lib.hid (wire_getEntry r w (by omega))
  have Hres : Hid (∀ res, full (rdEnt r) = res → (∀ e, res = .error e → e ≠ 0 ∧ recEnt k r = none) ∧ (∀ q, res = .ok q → recEnt k r = if (q.index : Int) ≤ k.base ∨ endK k + 1 < q.index then none else if logB k.base k.bt (k.es.take (q.index - k.base - 1).toNat ++ [toE q]) = true then some { k with es := k.es.take (q.index - k.base - 1).toNat ++ [toE q] } else none)) := by
    show ∀ res, _ → _
    rintro res rfl
    exact ⟨fun e he => ⟨rdEnt_err0 he, by rw [recEnt, he]⟩, fun q he => by rw [recEnt, he]⟩
  obtain ⟨res, hres⟩ := hide (full (rdEnt r))
  have Hr := Hres.out res hres.out
  rw [hres.out] at HG
  have Hk := Lib.hid hk
  have Hi := Lib.hid hi
  clear hk hi hb1 hrl
  go_enter Try.func17, Try.ntmps17
  go_wp2_with fail
  refine HG.out.mono ?_
  intro e w1 hp
  clear hl1 hd t0 t1 t2 hr
  obtain ⟨ae, ce, hev, hce, _⟩ := (OwnE.ents Hk.out.own).slice
  -- the entry that was read, or none
  obtain ⟨ii, ti, qi, dd, he, hb, hz⟩ : ∃ (ii ti qi : Int) (dd : List UInt8), (∃ zz, e = .returned (.tuple #[.agg #[.int .i64 ii, .int .i64 ti, .int .i64 qi, str dd], .int .i64 zz]) ∧ (zz ≠ 0 → recEnt k r = none) ∧ (zz = 0 → recEnt k r = if ii ≤ k.base ∨ endK k + 1 < ii then none else if logB k.base k.bt (k.es.take (ii - k.base - 1).toNat ++ [toEP ii ti qi dd]) = true then some { k with es := k.es.take (ii - k.base - 1).toNat ++ [toEP ii ti qi dd] } else none)) ∧ Below w.heap.size w w1 ∧ (-9223372036854775808 ≤ ii ∧ ii ≤ 9223372036854775807) := by
    cases res with
    | error zz =>
      obtain ⟨rfl, hb⟩ := hp
      obtain ⟨hz, hn⟩ := Hr.1 zz rfl
      exact ⟨0, 0, 0, [], ⟨zz, rfl, fun _ => hn, fun h => absurd h hz⟩, hb, by omega⟩
    | ok q =>
      obtain ⟨rfl, hb⟩ := hp
      have hrec := Hr.2 q rfl
      have hq := rdEnt_ok (full_ok hres.out)
      simp only [isEntry, inB, Bool.and_eq_true, decide_eq_true_eq] at hq
      exact ⟨q.index, q.term, q.kind, q.data, ⟨0, rfl, fun h => absurd rfl h, fun _ => hrec⟩, hb, by omega⟩
  obtain ⟨zz, rfl, hz1, hz2⟩ := he
  have Hb := Lib.hid (Chg.fresh (FP T P) hb)
  have Hk1 := Lib.hid (Hk.out.below hb)
  subst hev
  obtain ⟨W, hW⟩ := hide (w1.alloc (.cells #[.int .i64 ii, .int .i64 ti, .int .i64 qi, str dd] 37))
  obtain ⟨C, hC⟩ := hide w1.heap.size
  have hbW : Below w1.heap.size w1 W := by rw [← hW.out]; exact (Below.refl _ _).alloc (Nat.le_refl _) _
  have HkW := Lib.hid (Hk1.out.below hbW)
  have HCW : Hid (W.heap[C]? = some (.cells #[.int .i64 ii, .int .i64 ti, .int .i64 qi, str dd] 37 (0, 0))) := by show _ = _; rw [← hW.out, ← hC.out]; exact hp_at _ _ rfl
  have HbW : Hid (Chg (FP T P) w W) := Hb.out.trans (Chg.fresh _ hbW)
  have HgC : Hid (∀ g, (Value.slice ae k.es.length ce).ownBlock = some g → g < C) := fun g hg => by have := (Hk1.out.own.lt g hg).2; rw [← hC.out]; exact this
  have HPC : Hid (P ≠ C) := by have := lt_of_block Hk1.out.blk; rw [hC.out] at this; show P ≠ C; omega
  have HL := Lib.hid (wire_last k.base k.bt (.slice ae k.es.length ce) k.es _ W (OwnE.ents HkW.out.own) Hi.out.ok)
  have HlsE : Hid (endK k = k.base + k.es.length) := rfl
  obtain ⟨ls, hls⟩ := hide (k.base + (k.es.length : Int))
  obtain ⟨lt, hlt⟩ := hide (lastT k.bt k.es)
  rw [hls.out] at HlsE HL
  rw [hlt.out] at HL
  have hok := Hi.out.ok
  have hls2 : 0 ≤ ls ∧ ls ≤ 2199023255550 := by rw [← hls.out]; have := hok.b0; have := hok.b1; have := Hi.out.n; omega
  have hbs2 : 0 ≤ k.base ∧ k.base ≤ 1099511627775 := ⟨hok.b0, hok.b1⟩
  have Hrec0 : Hid (zz ≠ 0 → recEnt k r = none) := hz1
  have Hrec1 : Hid (zz = 0 → recEnt k r = if ii ≤ k.base ∨ ls + 1 < ii then none else if logB k.base k.bt (k.es.take (ii - k.base - 1).toNat ++ [toEP ii ti qi dd]) = true then some { k with es := k.es.take (ii - k.base - 1).toNat ++ [toEP ii ti qi dd] } else none) := by
    show zz = 0 → _
    intro h
    rw [hz2 h, HlsE.out]
  have d3 := cell_n HkW.out.blk 3 (v := .int .i64 k.base) rfl
  have d4 := cell_n HkW.out.blk 4 (v := .int .i64 k.bt) rfl
  have d5 := cell_n HkW.out.blk 5 (v := .slice ae k.es.length ce) rfl
  clear hb hbW hz1 hz2 Hr hp hok
  go_upto_region 13 with fail
  rw [hW.out, hC.out]
  go_wp2_with fail
  refine HL.out.mono ?_
  rintro e W2 ⟨rfl, hb2⟩
  have HkV := Lib.hid (HkW.out.below hb2)
  have HCV : Hid (W2.heap[C]? = some (.cells #[.int .i64 ii, .int .i64 ti, .int .i64 qi, str dd] 37 (0, 0))) := (hb2.block C (lt_of_block HCW.out)).trans HCW.out
  have HbV : Hid (Chg (FP T P) w W2) := HbW.out.trans (Chg.fresh _ hb2)
  have c0 := cell_n HCV.out 0 (v := .int .i64 ii) rfl
  clear hb2 d3 d4 d5
  have d3 := cell_n HkV.out.blk 3 (v := .int .i64 k.base) rfl
  have hw0 : IntKind.i64.wrap (ls + 1) = ls + 1 := IntWalk.i64_in _ (by omega)
  dsimp only
  go_upto_region 14 with fail
  by_cases hzz : zz = 0
  · subst hzz
    by_cases h1 : ii ≤ k.base
    · have q1 : decide (ii ≤ k.base) = true := decide_eq_true h1
      have Hq : Hid (∀ n, post (.returned (.bool false)) (W2.drewN n)) := by
        show ∀ n, _
        intro n
        rw [← HP.out, Hrec1.out rfl, if_pos (Or.inl h1)]
        exact ⟨HbV.out.trans (Chg.drewN _ _ n), rfl⟩
      have Hq0 : Hid (post (.returned (.bool false)) W2.drew) := by
        show post _ _
        rw [← HP.out, Hrec1.out rfl, if_pos (Or.inl h1)]
        exact ⟨HbV.out.trans (Chg.drew _ _), rfl⟩
      clear h1
      go_wp2_with (go_quiet (fail))
      first | exact Hq0.out | exact Hq.out _
    · have q1 : decide (ii ≤ k.base) = false := decide_eq_false h1
      by_cases h2 : ls + 1 < ii
      · have q2 : decide (ls + 1 < ii) = true := decide_eq_true h2
        have Hq : Hid (∀ n, post (.returned (.bool false)) (W2.drewN n)) := by
          show ∀ n, _
          intro n
          rw [← HP.out, Hrec1.out rfl, if_pos (Or.inr h2)]
          exact ⟨HbV.out.trans (Chg.drewN _ _ n), rfl⟩
        have Hq0 : Hid (post (.returned (.bool false)) W2.drew) := by
          show post _ _
          rw [← HP.out, Hrec1.out rfl, if_pos (Or.inr h2)]
          exact ⟨HbV.out.trans (Chg.drew _ _), rfl⟩
        clear h1 h2
        go_wp2_with (go_quiet (fail))
        first | exact Hq0.out | exact Hq.out _
      · have q2 : decide (ls + 1 < ii) = false := decide_eq_false h2
        have hm : ∃ m : Nat, ii - k.base - 1 = (m : Int) ∧ m ≤ k.es.length := ⟨(ii - k.base - 1).toNat, by omega, by rw [← Int.ofNat_le, ]; rw [← hls.out] at h2; omega⟩
        obtain ⟨m, hm1, hm2⟩ := hm
        have Hmn : Hid (m ≤ k.es.length) := hm2
        have Hm40 : Hid (m ≤ 1099511627775) := by show _ ≤ _; have := Hi.out.n; omega
        have hrec : recEnt k r = if logB k.base k.bt (k.es.take m ++ [toEP ii ti qi dd]) = true then some { k with es := k.es.take m ++ [toEP ii ti qi dd] } else none := by
          rw [Hrec1.out rfl, if_neg (fun h => h.elim h1 h2), hm1]
          rfl
        have Hrec := Lib.hid hrec
        have hw1 : IntKind.i64.wrap (ii - k.base) = ii - k.base := IntWalk.i64_in _ (by omega)
        have hw2 : IntKind.i64.wrap (ii - k.base - 1) = (m : Int) := by rw [← hm1]; exact IntWalk.i64_in _ (by omega)
        have Hw1 := Lib.hid hw1
        have Hw2 := Lib.hid hw2
        clear hw1 hw2
        go_cut [92] from 74 to 92 (fun s wx => s = .bool false ∧ Hid (Below W2.heap.size W2 wx))
        case first =>
          go_quiet (fail)
          go_wp2_with fail
          go_meet
          exact ⟨rfl, by first | exact (Below.refl _ _).drew | exact below_drewN (Below.refl _ _) _⟩
        case rest =>
        obtain ⟨U, hU⟩ : ∃ U, U = wc := ⟨_, rfl⟩
        subst hU
        obtain ⟨rfl, hbU⟩ := hcut
        have HkU := Lib.hid (HkV.out.below hbU.out)
        have HbU : Hid (Chg (FP T P) w U) := HbV.out.trans (Chg.fresh _ hbU.out)
        have HCU : Hid (U.heap[C]? = some (.cells #[.int .i64 ii, .int .i64 ti, .int .i64 qi, str dd] 37 (0, 0))) := (hbU.out.block C (lt_of_block HCV.out)).trans HCV.out
        have HEnd : Hid (∀ V a9 k9, Hid (KeptAt N T V P { k with es := k.es.take m ++ [toEP ii ti qi dd] } (.slice a9 (m + 1) k9) x y z cx cy cz) → Hid (Chg (FP T P) U V) →
            (∃ q, Calls Try.prog 33 #[vLog k.base k.bt (.slice a9 (m + 1) k9)] V (fun e w' => e = .returned (.bool q) ∧ Below V.heap.size V w') ∧ ∀ w', Below V.heap.size V w' → post (.returned (.bool q)) w')) := by
          show ∀ V a9 k9, _ → _ → _
          intro V a9 k9 hkV hcV
          refine ⟨logB k.base k.bt (k.es.take m ++ [toEP ii ti qi dd]), wire_valid k.base k.bt _ _ _ V (OwnE.ents hkV.out.own) ?_, fun w' hb => ?_⟩
          · have h3 : (k.es.take m ++ [toEP ii ti qi dd]).length = m + 1 := by rw [List.length_append, List.length_take]; have := Hmn.out; simp; omega
            show (k.es.take m ++ [toEP ii ti qi dd]).length ≤ _
            rw [h3]
            have := Hm40.out
            omega
          · rw [← HP.out, Hrec.out]
            refine ⟨(HbU.out.trans hcV.out).trans (Chg.fresh _ hb), ?_⟩
            cases hq : logB k.base k.bt (k.es.take m ++ [toEP ii ti qi dd])
            · rfl
            · exact ⟨rfl, T, _, _, _, _, _, _, _, Nat.le_refl _, hkV.out.below hb⟩
        clear c0 d3 hls2 hbs2 h1 h2 hm1 hm2 hrec hw0 q1 q2
        obtain ⟨n, hn⟩ := hide k.es.length
        have hE := HkU.out.own
        have c0 := cell_n HCU.out 0 (v := .int .i64 ii) rfl
        have c1 := cell_n HCU.out 1 (v := .int .i64 ti) rfl
        have c2 := cell_n HCU.out 2 (v := .int .i64 qi) rfl
        have c3 := cell_n HCU.out 3 (v := str dd) rfl
        have d3 := cell_n HkU.out.blk 3 (v := .int .i64 k.base) rfl
        have d5 := cell_n HkU.out.blk 5 (v := .slice ae k.es.length ce) rfl
        have hw1 := Hw1.out
        have hw2 := Hw2.out
        go_upto_region 16 with fail
        cases ae with
        | none =>
          have hnil := Sl.isNil (OwnE.ents hE)
          have hm0 : m = 0 := by have := Hmn.out; rw [hnil.1] at this; simpa using this
          have hl0 : k.es.length = 0 := by rw [hnil.1]; rfl
          obtain ⟨-, hc0⟩ := hnil
          subst hc0 hm0
          have Hl0 := Lib.hid hl0
          rw [hl0] at d5
          clear hE hl0
          have HoT : Hid (((U.alloc (.cells #[.int .i64 ii, .int .i64 ti, .int .i64 qi, str dd] 37)).drew).ownsRow T 37 4 (Value.slice none 0 0) 0 ((k.es.take 0).flatMap rowE)) := by
            show World.ownsRow _ _ _ _ _ _ _
            have h1 : 0 ≤ k.es.length := Nat.zero_le _
            have h2 := own_take HkU.out.own (k := 0) h1
            rw [flatW_take] at h2
            exact (h2.alloc _).drew
          have HbA : Hid (Below U.heap.size U ((U.alloc (.cells #[.int .i64 ii, .int .i64 ti, .int .i64 qi, str dd] 37)).drew)) := ((Below.refl _ _).alloc (Nat.le_refl _) _).drew
          have HmT : Hid ((k.es.take 0).length = 0) := by show _ = _; rw [List.length_take]; have := Hm40.out; omega
          have HTU : Hid (T ≤ ((U.alloc (.cells #[.int .i64 ii, .int .i64 ti, .int .i64 qi, str dd] 37)).drew).heap.size) := Nat.le_trans HkU.out.ts HbA.out.size
          have HBk : Hid (∀ w9 : World, ((U.alloc (.cells #[.int .i64 ii, .int .i64 ti, .int .i64 qi, str dd] 37)).drew).grownBy w9 (Value.slice none 0 0).ownBlock → w9.heap[P]? = some (.cells (cellsK k (Value.slice none k.es.length 0) x y z cx cy cz) 33 (0, 0))) := fun w9 hg => by
            have h2 := HkU.out.below HbA.out
            refine (hg.block P (lt_of_block h2.blk) (fun e => ?_)).trans h2.blk
            have h3 := (h2.own.lt P (by rw [Hl0.out]; exact e.symm)).1
            have := h2.pt
            omega
          have HFin : Hid (∀ v9 w9, ((U.alloc (.cells #[.int .i64 ii, .int .i64 ti, .int .i64 qi, str dd] 37)).drew).grownBy w9 (Value.slice none 0 0).ownBlock → w9.ownsRow T 37 4 v9 (0 + 1) ((k.es.take 0).flatMap rowE ++ rowE (toEP ii ti qi dd)) → KeptAt N T (w9.setCell ⟨P, 5, none⟩ v9) P { k with es := k.es.take 0 ++ [toEP ii ti qi dd] } v9 x y z cx cy cz ∧ Chg (FP T P) U (w9.setCell ⟨P, 5, none⟩ v9)) := by
            show ∀ v9 w9, _ → _ → _
            intro v9 w9 hg ho
            refine ent_fin HkU.out HbA.out (by rw [Hl0.out]; exact hg) ?_
            show w9.ownsRow _ _ _ _ _ _
            have h3 : (k.es.take 0 ++ [toEP ii ti qi dd]).length = 0 + 1 := by rw [List.length_append, HmT.out]; rfl
            rw [h3, List.flatMap_append]
            exact ho
          have HS0 : Hid ((fun u : World => u.cell? ⟨C, 0, none⟩ = some (.int .i64 ii) ∧ u.cell? ⟨C, 1, none⟩ = some (.int .i64 ti) ∧ u.cell? ⟨C, 2, none⟩ = some (.int .i64 qi) ∧ u.cell? ⟨C, 3, none⟩ = some (str dd) ∧ u.cell? ⟨P, 3, none⟩ = some (.int .i64 k.base) ∧ u.cell? ⟨P, 5, none⟩ = some (Value.slice none 0 0)) U) := ⟨c0, c1, c2, c3, d3, d5⟩
          have HS9 : Hid (∀ w9 : World, ((U.alloc (.cells #[.int .i64 ii, .int .i64 ti, .int .i64 qi, str dd] 37)).drew).grownBy w9 (Value.slice none 0 0).ownBlock → (fun u : World => u.cell? ⟨C, 0, none⟩ = some (.int .i64 ii) ∧ u.cell? ⟨C, 1, none⟩ = some (.int .i64 ti) ∧ u.cell? ⟨C, 2, none⟩ = some (.int .i64 qi) ∧ u.cell? ⟨C, 3, none⟩ = some (str dd) ∧ u.cell? ⟨P, 3, none⟩ = some (.int .i64 k.base) ∧ u.cell? ⟨P, 5, none⟩ = some (Value.slice none 0 0)) w9 ∧ w9.frozen? ⟨P, 5, none⟩ = false) := by
            show ∀ w9 : World, _ → _
            intro w9 hg
            have hC := ((HbA.out.block C (lt_of_block HCU.out)).trans HCU.out)
            have hC9 := (hg.block C (lt_of_block hC) (fun e => absurd (HgC.out C (by rw [Hl0.out]; exact e.symm)) (Nat.lt_irrefl _))).trans hC
            have hP9 := HBk.out w9 hg
            have d9 := cell_n hP9 5 rfl
            rw [Hl0.out] at d9
            exact ⟨⟨cell_n hC9 0 rfl, cell_n hC9 1 rfl, cell_n hC9 2 rfl, cell_n hC9 3 rfl, cell_n hP9 3 rfl, d9⟩, free_n hP9 5⟩
          go_cut [111] from 93 to 114 (fun s wx => ∃ a9 k9, s = .slice a9 (0 + 1) k9 ∧ Hid (KeptAt N T wx P { k with es := k.es.take 0 ++ [toEP ii ti qi dd] } (.slice a9 (0 + 1) k9) x y z cx cy cz) ∧ Hid (Chg (FP T P) U wx))
          case first =>
            rename_i J' K' hJ' hK'
            refine piece_any (app_nil U T P C k.base ii ti qi dd _ HS0 HS9 hw1 hw2 HoT HTU K' ?_)
            unfold Hid
            intros
            refine hK' _ _ (Met.intro (hJ' _ _ ?_))
            (repeat apply Exists.intro)
            refine ⟨?_, rfl⟩
            rename_i hr
            obtain ⟨a9, k9, w9, rfl, hg9, ho9, rfl⟩ := hr
            exact ⟨a9, k9, rfl, (HFin.out _ _ hg9 ho9).1, (HFin.out _ _ hg9 ho9).2⟩
          case rest =>
            obtain ⟨V, hV⟩ : ∃ V, V = wc := ⟨_, rfl⟩
            subst hV
            obtain ⟨a9, k9, rfl, hkV, hcV⟩ := hcut
            exact by
              have hh := HEnd.out V a9 k9 hkV hcV
              obtain ⟨q, hV1, hV2⟩ := hh
              have HV1 := Lib.hid hV1
              have HV2 := Lib.hid hV2
              have d3' := cell_n hkV.out.blk 3 (v := .int .i64 k.base) rfl
              have d4' := cell_n hkV.out.blk 4 (v := .int .i64 k.bt) rfl
              have d5' := cell_n hkV.out.blk 5 (v := .slice a9 (0 + 1) k9) rfl
              clear hV1 hV2 hkV hcV
              go_wp2_with fail
              refine HV1.out.mono ?_
              rintro e w3 ⟨rfl, hb3⟩
              have Hq := Lib.hid (HV2.out w3 hb3)
              clear hb3
              go_wp2_with fail
              exact Hq.out
        | some a =>
          obtain ⟨g, hag, hnc, hcm⟩ : ∃ g, a = ⟨g, 0, none⟩ ∧ k.es.length ≤ ce ∧ ce ≤ maxLen := by
            rcases hE.2 with ⟨hv, _⟩ | ⟨g, cap', cur, hv, _, _, hnc, hcm, _⟩
            · injection hv with e1; cases e1
            · injection hv with e1 e2 e3
              injection e1 with e1
              subst e3
              exact ⟨g, e1, hnc, hcm⟩
          subst hag
          have p1 : m ≤ ce := by have := Hmn.out; omega
          have p2 : (m : Int) ≤ (ce : Int) := by omega
          unfold maxLen at hcm
          rw [hn.out] at d5 hnc
          clear hE
          have HoT : Hid (((U.alloc (.cells #[.int .i64 ii, .int .i64 ti, .int .i64 qi, str dd] 37)).drew).ownsRow T 37 4 (Value.slice (some ⟨g, 0, none⟩) m ce) m ((k.es.take m).flatMap rowE)) := by
            show World.ownsRow _ _ _ _ _ _ _
            have h1 : m ≤ k.es.length := Hmn.out
            have h2 := own_take HkU.out.own (k := m) h1
            rw [flatW_take] at h2
            exact (h2.alloc _).drew
          have HbA : Hid (Below U.heap.size U ((U.alloc (.cells #[.int .i64 ii, .int .i64 ti, .int .i64 qi, str dd] 37)).drew)) := ((Below.refl _ _).alloc (Nat.le_refl _) _).drew
          have HmT : Hid ((k.es.take m).length = m) := by show _ = _; rw [List.length_take]; have := Hmn.out; omega
          have HTU : Hid (T ≤ ((U.alloc (.cells #[.int .i64 ii, .int .i64 ti, .int .i64 qi, str dd] 37)).drew).heap.size) := Nat.le_trans HkU.out.ts HbA.out.size
          have HBk : Hid (∀ w9 : World, ((U.alloc (.cells #[.int .i64 ii, .int .i64 ti, .int .i64 qi, str dd] 37)).drew).grownBy w9 (Value.slice (some ⟨g, 0, none⟩) m ce).ownBlock → w9.heap[P]? = some (.cells (cellsK k (Value.slice (some ⟨g, 0, none⟩) k.es.length ce) x y z cx cy cz) 33 (0, 0))) := fun w9 hg => by
            have h2 := HkU.out.below HbA.out
            refine (hg.block P (lt_of_block h2.blk) (fun e => ?_)).trans h2.blk
            have h3 := (h2.own.lt P (by rw [show (Value.slice (some ⟨g, 0, none⟩) k.es.length ce).ownBlock = (Value.slice (some ⟨g, 0, none⟩) m ce).ownBlock from rfl]; exact e.symm)).1
            have := h2.pt
            omega
          have HFin : Hid (∀ v9 w9, ((U.alloc (.cells #[.int .i64 ii, .int .i64 ti, .int .i64 qi, str dd] 37)).drew).grownBy w9 (Value.slice (some ⟨g, 0, none⟩) m ce).ownBlock → w9.ownsRow T 37 4 v9 (m + 1) ((k.es.take m).flatMap rowE ++ rowE (toEP ii ti qi dd)) → KeptAt N T (w9.setCell ⟨P, 5, none⟩ v9) P { k with es := k.es.take m ++ [toEP ii ti qi dd] } v9 x y z cx cy cz ∧ Chg (FP T P) U (w9.setCell ⟨P, 5, none⟩ v9)) := by
            show ∀ v9 w9, _ → _ → _
            intro v9 w9 hg ho
            refine ent_fin HkU.out HbA.out (by rw [show (Value.slice (some ⟨g, 0, none⟩) k.es.length ce).ownBlock = (Value.slice (some ⟨g, 0, none⟩) m ce).ownBlock from rfl]; exact hg) ?_
            show w9.ownsRow _ _ _ _ _ _
            have h3 : (k.es.take m ++ [toEP ii ti qi dd]).length = m + 1 := by rw [List.length_append, HmT.out]; rfl
            rw [h3, List.flatMap_append]
            exact ho
          have HS0 : Hid ((fun u : World => u.cell? ⟨C, 0, none⟩ = some (.int .i64 ii) ∧ u.cell? ⟨C, 1, none⟩ = some (.int .i64 ti) ∧ u.cell? ⟨C, 2, none⟩ = some (.int .i64 qi) ∧ u.cell? ⟨C, 3, none⟩ = some (str dd) ∧ u.cell? ⟨P, 3, none⟩ = some (.int .i64 k.base) ∧ u.cell? ⟨P, 5, none⟩ = some (Value.slice (some ⟨g, 0, none⟩) n ce)) U) := ⟨c0, c1, c2, c3, d3, d5⟩
          have HS9 : Hid (∀ w9 : World, ((U.alloc (.cells #[.int .i64 ii, .int .i64 ti, .int .i64 qi, str dd] 37)).drew).grownBy w9 (Value.slice (some ⟨g, 0, none⟩) m ce).ownBlock → (fun u : World => u.cell? ⟨C, 0, none⟩ = some (.int .i64 ii) ∧ u.cell? ⟨C, 1, none⟩ = some (.int .i64 ti) ∧ u.cell? ⟨C, 2, none⟩ = some (.int .i64 qi) ∧ u.cell? ⟨C, 3, none⟩ = some (str dd) ∧ u.cell? ⟨P, 3, none⟩ = some (.int .i64 k.base) ∧ u.cell? ⟨P, 5, none⟩ = some (Value.slice (some ⟨g, 0, none⟩) n ce)) w9 ∧ w9.frozen? ⟨P, 5, none⟩ = false) := by
            show ∀ w9 : World, _ → _
            intro w9 hg
            have hC := ((HbA.out.block C (lt_of_block HCU.out)).trans HCU.out)
            have hC9 := (hg.block C (lt_of_block hC) (fun e => absurd (HgC.out C (by rw [show (Value.slice (some ⟨g, 0, none⟩) k.es.length ce).ownBlock = (Value.slice (some ⟨g, 0, none⟩) m ce).ownBlock from rfl]; exact e.symm)) (Nat.lt_irrefl _))).trans hC
            have hP9 := HBk.out w9 hg
            have d9 := cell_n hP9 5 rfl
            rw [hn.out] at d9
            exact ⟨⟨cell_n hC9 0 rfl, cell_n hC9 1 rfl, cell_n hC9 2 rfl, cell_n hC9 3 rfl, cell_n hP9 3 rfl, d9⟩, free_n hP9 5⟩
          go_cut [111] from 93 to 114 (fun s wx => ∃ a9 k9, s = .slice a9 (m + 1) k9 ∧ Hid (KeptAt N T wx P { k with es := k.es.take m ++ [toEP ii ti qi dd] } (.slice a9 (m + 1) k9) x y z cx cy cz) ∧ Hid (Chg (FP T P) U wx))
          case first =>
            rename_i J' K' hJ' hK'
            refine piece_any (app_some U T P C k.base ii ti qi dd _ g m n ce HS0 HS9 hw1 hw2 p1 p2 Hm40 HoT HTU K' ?_)
            unfold Hid
            intros
            refine hK' _ _ (Met.intro (hJ' _ _ ?_))
            (repeat apply Exists.intro)
            refine ⟨?_, rfl⟩
            rename_i hr
            obtain ⟨a9, k9, w9, rfl, hg9, ho9, rfl⟩ := hr
            exact ⟨a9, k9, rfl, (HFin.out _ _ hg9 ho9).1, (HFin.out _ _ hg9 ho9).2⟩
          case rest =>
            obtain ⟨V, hV⟩ : ∃ V, V = wc := ⟨_, rfl⟩
            subst hV
            obtain ⟨a9, k9, rfl, hkV, hcV⟩ := hcut
            exact by
              have hh := HEnd.out V a9 k9 hkV hcV
              obtain ⟨q, hV1, hV2⟩ := hh
              have HV1 := Lib.hid hV1
              have HV2 := Lib.hid hV2
              have d3' := cell_n hkV.out.blk 3 (v := .int .i64 k.base) rfl
              have d4' := cell_n hkV.out.blk 4 (v := .int .i64 k.bt) rfl
              have d5' := cell_n hkV.out.blk 5 (v := .slice a9 (m + 1) k9) rfl
              clear hV1 hV2 hkV hcV
              go_wp2_with fail
              refine HV1.out.mono ?_
              rintro e w3 ⟨rfl, hb3⟩
              have Hq := Lib.hid (HV2.out w3 hb3)
              clear hb3
              go_wp2_with fail
              exact Hq.out
  · have tz : (zz != 0) = true := bne_iff_ne.2 hzz
    have tz' : (zz == 0) = false := beq_eq_false_iff_ne.2 hzz
    have Hq : Hid (∀ n, post (.returned (.bool false)) (W2.drewN n)) := by
      show ∀ n, _
      intro n
      rw [← HP.out, Hrec0.out hzz]
      exact ⟨HbV.out.trans (Chg.drewN _ _ n), rfl⟩
    have Hq0 : Hid (post (.returned (.bool false)) W2.drew) := by
      show post _ _
      rw [← HP.out, Hrec0.out hzz]
      exact ⟨HbV.out.trans (Chg.drew _ _), rfl⟩
    clear hzz
    go_wp2_with (go_quiet (fail))
    first | exact Hq0.out | exact Hq.out _
/-- any record -/
theorem rec_all (N : Nat → Prop) (T P : Nat) (k : Kp) (ev x y z cx cy cz : Value) (s : List UInt8) (w : World) (hk : KeptAt N T w P k ev x y z cx cy cz) (hi : InvK k) (hr : s.length ≤ 9223372036854775806) :
    Calls Try.prog 17 #[.pointer (some ⟨P, 0, none⟩), str s] w (RecPost N T P w (recP k s)) := by
  have hnone : ∀ s : List UInt8, s.length ≤ 9223372036854775806 → (s = [] ∨ ∃ b r, s = b :: r ∧ b ≠ 1 ∧ b ≠ 2 ∧ b ≠ 3) → recP k s = none → Calls Try.prog 17 #[.pointer (some ⟨P, 0, none⟩), str s] w (RecPost N T P w (recP k s)) := by
    intro s hr h hn
    refine (rec_none N T P k ev x y z cx cy cz s w hk (by omega) h).mono ?_
    rintro e w' ⟨rfl, rfl⟩
    rw [hn]
    exact ⟨Chg.refl _ _, rfl⟩
  cases s with
  | nil => exact hnone [] hr (Or.inl rfl) rfl
  | cons b r =>
    by_cases h1 : b = 1
    · subst h1
      exact rec_hard N T P k ev x y z cx cy cz (1 :: r) r w hk (body_of 1 r) hr
    · by_cases h2 : b = 2
      · subst h2
        exact rec_ent N T P k ev x y z cx cy cz (2 :: r) r w hk hi (body_of 2 r) hr
      · by_cases h3 : b = 3
        · subst h3
          exact rec_snap N T P k ev x y z cx cy cz (3 :: r) r w hk (body_of 3 r) hr
        · exact hnone (b :: r) hr (Or.inr ⟨b, r, rfl, h1, h2, h3⟩) (by simp [recP, h1, h2, h3])
end Go.Proofs.Ytjlhlmnoomiblaa
