/-
  What files say, read by the program (package wal): a record of the hard state, a snapshot, none.
-/
import Derived.Test.YtjlhlmnoomiblaaZ24
import Derived.Test.YtjlhlmnoomiblaaZ25
import Derived.Test.YtjlhlmnoomiblaaZ26
import Derived.Test.YtjlhlmnoomiblaaZ27
import Derived.Test.YtjlhlmnoomiblaaZ29
import Derived.Deep.CutRange
import Derived.Deep.RegionLaw
namespace Go.Proofs.Ytjlhlmnoomiblaa
open Go.RowKit Wm Mm Lg Fl
set_option linter.unusedVariables false
set_option linter.unusedSimpArgs false

/-- integers in blocks of F -/
def IntsG (F : Nat → Prop) (w : World) (v : Value) (l : List Int) : Prop :=
  ∃ ao cap, v = .slice ao l.length cap ∧ (l ≠ [] → ∃ b off, ao = some ⟨b, off, none⟩ ∧ F b ∧ ∀ j x, l[j]? = some x → w.cell? ⟨b, off + j, none⟩ = some (.int .i64 x)) ∧ l.length ≤ maxLen
theorem IntsG.ints {F : Nat → Prop} {w : World} {v : Value} {l : List Int} (h : IntsG F w v l) : Ints w v l := by
  obtain ⟨ao, cap, rfl, hc, hm⟩ := h
  exact ⟨ao, cap, rfl, fun hne => by obtain ⟨b, off, h1, _, h2⟩ := hc hne; exact ⟨b, off, h1, h2⟩, hm⟩
theorem IntsG.of {F : Nat → Prop} {w : World} {v : Value} {l : List Int} (h : Ints w v l) (hF : ∀ b, b < w.heap.size → F b) : IntsG F w v l := by
  obtain ⟨ao, cap, rfl, hc, hm⟩ := h
  refine ⟨ao, cap, rfl, fun hne => ?_, hm⟩
  obtain ⟨b, off, h1, h2⟩ := hc hne
  refine ⟨b, off, h1, hF b ?_, h2⟩
  have hl : 0 < l.length := List.length_pos_iff.2 hne
  exact World.block_lt_of_cell? _ _ (h2 0 _ (List.getElem?_eq_getElem hl))
theorem IntsG.ofF {F : Nat → Prop} {S : Nat} {w : World} {v : Value} {l : List Int} (h : IntsF S w v l) (hF : ∀ b, S ≤ b → b < w.heap.size → F b) : IntsG F w v l := by
  obtain ⟨ao, cap, rfl, hc, hm⟩ := h
  refine ⟨ao, cap, rfl, fun hne => ?_, hm⟩
  obtain ⟨b, off, h1, h3, h2⟩ := hc hne
  have hl : 0 < l.length := List.length_pos_iff.2 hne
  exact ⟨b, off, h1, hF b h3 (World.block_lt_of_cell? _ _ (h2 0 _ (List.getElem?_eq_getElem hl))), h2⟩
theorem IntsG.frame {F : Nat → Prop} {w w' : World} {v : Value} {l : List Int} (h : IntsG F w v l) (ha : Agree F w w') : IntsG F w' v l := by
  obtain ⟨ao, cap, rfl, hc, hm⟩ := h
  refine ⟨ao, cap, rfl, fun hne => ?_, hm⟩
  obtain ⟨b, off, h1, h3, h2⟩ := hc hne
  refine ⟨b, off, h1, h3, fun j x hx => ?_⟩
  have h4 := h2 j x hx
  rw [← h4]
  simp only [World.cell?, ha.2 b h3 (World.block_lt_of_cell? _ _ h4)]
theorem IntsG.weak {F G : Nat → Prop} {w : World} {v : Value} {l : List Int} (h : IntsG F w v l) (hs : ∀ b, F b → b < w.heap.size → G b) : IntsG G w v l := by
  obtain ⟨ao, cap, rfl, hc, hm⟩ := h
  refine ⟨ao, cap, rfl, fun hne => ?_, hm⟩
  obtain ⟨b, off, h1, h3, h2⟩ := hc hne
  have hl : 0 < l.length := List.length_pos_iff.2 hne
  exact ⟨b, off, h1, hs b h3 (World.block_lt_of_cell? _ _ (h2 0 _ (List.getElem?_eq_getElem hl))), h2⟩
structure ConfG (F : Nat → Prop) (w : World) (a b d : Value) (c : Conf) : Prop where
  v : IntsG F w a c.v
  n : IntsG F w b c.n
  l : IntsG F w d c.l
theorem ConfG.conf {F : Nat → Prop} {w : World} {a b d : Value} {c : Conf} (h : ConfG F w a b d c) : Config3 w a b d c := ⟨h.v.ints, h.n.ints, h.l.ints⟩
theorem ConfG.of {F : Nat → Prop} {w : World} {a b d : Value} {c : Conf} (h : Config3 w a b d c) (hF : ∀ b, b < w.heap.size → F b) : ConfG F w a b d c := ⟨.of h.v hF, .of h.n hF, .of h.l hF⟩
theorem ConfG.ofF {F : Nat → Prop} {S : Nat} {w : World} {a b d : Value} {c : Conf} (h : Config3F S w a b d c) (hF : ∀ b, S ≤ b → b < w.heap.size → F b) : ConfG F w a b d c := ⟨.ofF h.v hF, .ofF h.n hF, .ofF h.l hF⟩
theorem ConfG.frame {F : Nat → Prop} {w w' : World} {a b d : Value} {c : Conf} (h : ConfG F w a b d c) (ha : Agree F w w') : ConfG F w' a b d c := ⟨h.v.frame ha, h.n.frame ha, h.l.frame ha⟩
theorem ConfG.weak {F G : Nat → Prop} {w : World} {a b d : Value} {c : Conf} (h : ConfG F w a b d c) (hs : ∀ b, F b → b < w.heap.size → G b) : ConfG G w a b d c := ⟨h.v.weak hs, h.n.weak hs, h.l.weak hs⟩

theorem at_set {w : World} {b i : Nat} {xs : List Value} {t : TypeId} (h : w.heap[b]? = some (.cells xs.toArray t (0, 0))) (v : Value) : (w.setCell ⟨b, i, none⟩ v).heap[b]? = some (.cells (xs.set i v).toArray t (0, 0)) := by
  rw [heap_setCell, if_pos rfl, h]
  simp [storeIn]
def setL : List Value → Nat → List Value → List Value
  | xs, _, [] => xs
  | xs, i, v :: vs => setL (xs.set i v) (i + 1) vs
theorem from_at {b : Nat} {t : TypeId} : ∀ {vs : List Value} {w : World} {i : Nat} {xs : List Value}, w.heap[b]? = some (.cells xs.toArray t (0, 0)) → (setFrom w b i vs).heap[b]? = some (.cells (setL xs i vs).toArray t (0, 0))
  | [], _, _, _, h => h
  | v :: vs, _, _, _, h => from_at (vs := vs) (at_set h v)

/-- what is known of a node's files lies in block P: its entries in a row of its own from T on, its configurations ahead of T, in blocks of N -/
structure KeptAt (N : Nat → Prop) (T : Nat) (w : World) (P : Nat) (k : Kp) (ev x y z cx cy cz : Value) : Prop where
  blk : w.heap[P]? = some (.cells (cellsK k ev x y z cx cy cz) 33 (0, 0))
  own : OwnE T w ev k.es
  sc : ConfG (fun b => b < T ∧ N b) w x y z k.sc
  cf : ConfG (fun b => b < T ∧ N b) w cx cy cz k.cf
  pt : P < T
  ts : T ≤ w.heap.size
  np : ¬ N P
  nt : ∀ b, T ≤ b → N b
abbrev FP (T P : Nat) : Nat → Prop := fun b => b = P ∨ T ≤ b
theorem KeptAt.below {N : Nat → Prop} {T : Nat} {w w' : World} {P : Nat} {k : Kp} {ev x y z cx cy cz : Value} (h : KeptAt N T w P k ev x y z cx cy cz) (hb : Below w.heap.size w w') : KeptAt N T w' P k ev x y z cx cy cz :=
  ⟨(hb.block P (lt_of_block h.blk)).trans h.blk, own_below h.own hb, h.sc.frame (Agree.below hb), h.cf.frame (Agree.below hb), h.pt, Nat.le_trans h.ts hb.size, h.np, h.nt⟩
/-- the block alone is another -/
theorem KeptAt.block {N : Nat → Prop} {T : Nat} {w w' : World} {P : Nat} {k k' : Kp} {ev x y z cx cy cz : Value} (h : KeptAt N T w P k ev x y z cx cy cz) (hc : Chg (fun b => b = P) w w') (he : k'.es = k.es) (hs : k'.sc = k.sc) (hcf : k'.cf = k.cf)
    (hb : w'.heap[P]? = some (.cells (cellsK k' ev x y z cx cy cz) 33 (0, 0))) : KeptAt N T w' P k' ev x y z cx cy cz := by
  refine ⟨hb, ?_, ?_, ?_, h.pt, Nat.le_trans h.ts hc.size, h.np, h.nt⟩
  · rw [he]
    refine own_chg h.own hc (fun g hg e => ?_)
    have := (h.own.lt g hg).1
    have := h.pt
    omega
  · rw [hs]; exact h.sc.frame (hc.agree (fun b hb e => h.np (e ▸ hb.2)))
  · rw [hcf]; exact h.cf.frame (hc.agree (fun b hb e => h.np (e ▸ hb.2)))
theorem chg_from (P : Nat) : ∀ (vs : List Value) (w : World) (i : Nat), Chg (fun b => b = P) w (setFrom w P i vs)
  | [], w, _ => Chg.refl _ w
  | v :: vs, w, i => (Chg.setCell (F := fun b => b = P) (a := ⟨P, i, none⟩) w rfl v).trans (chg_from P vs _ (i + 1))
def RecPost (N : Nat → Prop) (T P : Nat) (w : World) (o : Option Kp) (e : Ending) (w' : World) : Prop :=
  Chg (FP T P) w w' ∧ match o with
  | none => e = .returned (.bool false)
  | some k' => e = .returned (.bool true) ∧ ∃ T' ev x y z cx cy cz, T ≤ T' ∧ KeptAt N T' w' P k' ev x y z cx cy cz
theorem rdMany_errW : ∀ (n : Nat) (acc : List Nat) (s : List UInt8) (z : Int), rdMany n acc s = .error z → z ≠ 0
  | 0, acc, s, z, h => by cases h
  | n + 1, acc, s, z, h => by
    rw [rdMany] at h
    cases hx : rdNum s with
    | error y => rw [hx] at h; injection h with h; subst h; exact rdNum_err hx
    | ok p => obtain ⟨x, t⟩ := p; rw [hx] at h; exact rdMany_errW n _ _ _ h
theorem full_err {α : Type} {r : Res α} {z : Int} (h : full r = .error z) (hr : ∀ y, r = .error y → y ≠ 0) : z ≠ 0 := by
  unfold full at h
  split at h
  · injection h with h; subst h; exact hr _ rfl
  · cases h
  · injection h with h; subst h; decide
theorem full_len {n : Nat} {r : List UInt8} {l : List Nat} (h : full (rdMany n [] r) = .ok l) : l.length = n := by
  have := (rdMany_lt n [] r l [] (by simp) (full_ok h)).2
  simpa using this

set_option maxHeartbeats 4000000 in
set_option maxRecDepth 100000 in
theorem rec_none (N : Nat → Prop) (T P : Nat) (k : Kp) (ev x y z cx cy cz : Value) (s : List UInt8) (w : World) (hk : KeptAt N T w P k ev x y z cx cy cz) (hs : s.length ≤ 9223372036854775807) (h : s = [] ∨ ∃ b r, s = b :: r ∧ b ≠ 1 ∧ b ≠ 2 ∧ b ≠ 3) :
    Calls Try.prog 17 #[.pointer (some ⟨P, 0, none⟩), str s] w fun e w' => e = .returned (.bool false) ∧ w = w' := by
  rcases h with rfl | ⟨b, r, rfl, h1, h2, h3⟩
  · go_enter Try.func17, Try.ntmps17
    go_wp2_with fail
    go_ret
    exact ⟨rfl, rfl⟩
  · have t1 : ((b.toNat : Int) == 1) = false := beq_eq_false_iff_ne.2 (fun e => h1 (UInt8.toNat_inj.1 (by show b.toNat = 1; omega)))
    have t2 : ((b.toNat : Int) == 2) = false := beq_eq_false_iff_ne.2 (fun e => h2 (UInt8.toNat_inj.1 (by show b.toNat = 2; omega)))
    have t3 : ((b.toNat : Int) == 3) = false := beq_eq_false_iff_ne.2 (fun e => h3 (UInt8.toNat_inj.1 (by show b.toNat = 3; omega)))
    have t0 : ((b :: r) == []) = false := rfl
    clear h1 h2 h3
    go_enter Try.func17, Try.ntmps17
    go_wp2_with fail
    go_ret
    exact ⟨rfl, rfl⟩
/-- what the tests ask of a body's first byte -/
structure Body (s : List UInt8) (b : UInt8) (r : List UInt8) : Prop where
  l : 0 < s.length
  d : s.drop 1 = r
  z : (s == []) = false
  b : s[0]'l = b
theorem body_of (b : UInt8) (r : List UInt8) : Body (b :: r) b r := ⟨by simp, rfl, rfl, rfl⟩
theorem own3 {S : Nat} {w : World} {v : Value} {l : List Nat} (h : w.ownsRow S 3 1 v l.length (l.map vNat)) (h3 : l.length = 3) :
    ∃ g cap t u c, l = [t, u, c] ∧ v = .slice (some ⟨g, 0, none⟩) 3 cap ∧ w.cell? ⟨g, 0, none⟩ = some (.int .i64 t) ∧ w.cell? ⟨g, 1, none⟩ = some (.int .i64 u) ∧ w.cell? ⟨g, 2, none⟩ = some (.int .i64 c) ∧ S ≤ g := by
  match l, h3 with
  | [t, u, c], _ =>
    rcases h.2 with ⟨_, h0⟩ | ⟨g, cap, cur, hv, hb, hg, hn, hc, hs, ht⟩
    · cases h0
    · subst hv
      exact ⟨g, cap, t, u, c, rfl, rfl, own_cell h rfl, own_cell h rfl, own_cell h rfl, hb⟩
set_option maxHeartbeats 4000000 in
set_option maxRecDepth 100000 in
theorem rec_hard (N : Nat → Prop) (T P : Nat) (k : Kp) (ev x y z cx cy cz : Value) (s r : List UInt8) (w : World) (hk : KeptAt N T w P k ev x y z cx cy cz) (hs : Body s 1 r) (hr : s.length ≤ 9223372036854775806) :
    Calls Try.prog 17 #[.pointer (some ⟨P, 0, none⟩), str s] w (RecPost N T P w (recHard k r)) := by
  obtain ⟨post, HP⟩ := hide (RecPost N T P w (recHard k r))
  rw [HP.out]
  obtain ⟨hl, hd, t0, hb1⟩ := hs
  have t1 : ((s[0].toNat : Int) == 1) = true := by rw [hb1]; rfl
  have hl1 : 1 ≤ s.length := hl
  have hrl : r.length ≤ 9223372036854775806 := by rw [← hd, List.length_drop]; omega
  have HG := Lib.hid (wire_getNumbers r 3 w (by omega) (by omega))
  have Hres : Hid (∀ res, full (rdMany 3 [] r) = res → (∀ e, res = .error e → e ≠ 0 ∧ recHard k r = none) ∧ (∀ t v c, res = .ok [t, v, c] → recHard k r = if (t : Int) < k.t ∨ 9 < v then none else some { k with t := t, v := v, c := c }) ∧ (∀ l, res = .ok l → l.length = 3)) := by
    show ∀ res, _ → _
    rintro res rfl
    refine ⟨fun e he => ⟨full_err he (rdMany_errW 3 [] r), by rw [recHard, he]⟩, fun t v c he => by rw [recHard, he], fun l he => full_len he⟩
  obtain ⟨res, hres⟩ := hide (full (rdMany 3 [] r))
  have Hr := Hres.out res hres.out
  rw [hres.out] at HG
  have Hk := Lib.hid hk
  clear hk hb1 hrl
  go_enter Try.func17, Try.ntmps17
  go_wp2_with fail
  refine HG.out.mono ?_
  intro e w1 hp
  clear hl1 hd t0 t1 hr
  cases res with
  | error zz =>
    obtain ⟨rfl, hb⟩ := hp
    obtain ⟨hz, hn⟩ := Hr.1 zz rfl
    have tz : (zz != 0) = true := bne_iff_ne.2 hz
    have tz' : (zz == 0) = false := beq_eq_false_iff_ne.2 hz
    have Hq : Hid (∀ n, post (.returned (.bool false)) (w1.drewN n)) := by
      show ∀ n, _
      intro n
      rw [← HP.out, hn]
      exact ⟨(Chg.fresh _ hb).trans (Chg.drewN _ _ n), rfl⟩
    have Hq0 : Hid (post (.returned (.bool false)) w1.drew) := by
      show post _ _
      rw [← HP.out, hn]
      exact ⟨(Chg.fresh _ hb).trans (Chg.drew _ _), rfl⟩
    clear hz hb hn Hr
    dsimp only
    go_wp2_with (go_quiet (fail))
    first | exact Hq0.out | exact Hq.out _
  | ok l =>
    obtain ⟨vv, rfl, ho, hb⟩ := hp
    obtain ⟨g, cap, t, v, c, rfl, rfl, g0, g1, g2, hSg⟩ := own3 ho (Hr.2.2 l rfl)
    have hrec := Hr.2.1 t v c rfl
    have Hk1 := Lib.hid (Hk.out.below hb)
    have c0 := cell_n Hk1.out.blk 0 (v := .int .i64 k.t) rfl
    have Hb := Lib.hid (Chg.fresh (FP T P) hb)
    obtain ⟨ti, hti⟩ := hide (t : Int)
    obtain ⟨vi, hvi⟩ := hide (v : Int)
    obtain ⟨ci, hci⟩ := hide (c : Int)
    rw [hti.out] at g0
    rw [hvi.out] at g1
    rw [hci.out] at g2
    have hrec2 : recHard k r = if ti < k.t ∨ 9 < vi then none else some { k with t := ti, v := vi, c := ci } := by
      rw [hrec, hti.out, hvi.out, hci.out]
      have hiff : 9 < v ↔ 9 < vi := by rw [← hvi.out]; omega
      by_cases hh : ti < k.t ∨ 9 < vi
      · rw [if_pos hh, if_pos (hh.imp id hiff.2)]
      · rw [if_neg hh, if_neg (fun h => hh (h.imp id hiff.1))]
    have Hrec := Lib.hid hrec2
    obtain ⟨kt, hkt⟩ := hide k.t
    rw [hkt.out] at c0 Hrec
    clear hrec hrec2 Hr ho hb hti hvi hci
    dsimp only
    by_cases h1 : ti < kt
    · have q1 : decide (ti < kt) = true := decide_eq_true h1
      have Hq : Hid (∀ n, post (.returned (.bool false)) (w1.drewN n)) := by
        show ∀ n, _
        intro n
        rw [← HP.out, Hrec.out, if_pos (Or.inl h1)]
        exact ⟨Hb.out.trans (Chg.drewN _ _ n), rfl⟩
      have Hq0 : Hid (post (.returned (.bool false)) w1.drew) := by
        show post _ _
        rw [← HP.out, Hrec.out, if_pos (Or.inl h1)]
        exact ⟨Hb.out.trans (Chg.drew _ _), rfl⟩
      clear h1
      go_wp2_with (go_quiet (fail))
      first | exact Hq0.out | exact Hq.out _
    · have q1 : decide (ti < kt) = false := decide_eq_false h1
      by_cases h2 : 9 < vi
      · have q2 : decide (9 < vi) = true := decide_eq_true h2
        have Hq : Hid (∀ n, post (.returned (.bool false)) (w1.drewN n)) := by
          show ∀ n, _
          intro n
          rw [← HP.out, Hrec.out, if_pos (Or.inr h2)]
          exact ⟨Hb.out.trans (Chg.drewN _ _ n), rfl⟩
        have Hq0 : Hid (post (.returned (.bool false)) w1.drew) := by
          show post _ _
          rw [← HP.out, Hrec.out, if_pos (Or.inr h2)]
          exact ⟨Hb.out.trans (Chg.drew _ _), rfl⟩
        clear h1 h2
        go_wp2_with (go_quiet (fail))
        first | exact Hq0.out | exact Hq.out _
      · have q2 : decide (9 < vi) = false := decide_eq_false h2
        have Hq : Hid (∀ U, Chg (fun b => b = P) w1 U → U.heap[P]? = some (.cells (cellsK { k with t := ti, v := vi, c := ci } ev x y z cx cy cz) 33 (0, 0)) → post (.returned (.bool true)) U) := by
          show ∀ U, _ → _ → _
          intro U hU hbU
          rw [← HP.out, Hrec.out, if_neg (fun h => h.elim h1 h2)]
          exact ⟨Hb.out.trans (hU.mono (fun b _ hb => Or.inl hb)), rfl, T, ev, x, y, z, cx, cy, cz, Nat.le_refl _, Hk1.out.block hU rfl rfl rfl hbU⟩
        have Hst : Hid (∀ U, Chg (fun b => b = P) w1 U → (∀ j : Nat, U.heap[j]? = w1.heap[j]?) → post (.returned (.bool true)) (((U.setCell ⟨P, 0, none⟩ (.int .i64 ti)).setCell ⟨P, 1, none⟩ (.int .i64 vi)).setCell ⟨P, 2, none⟩ (.int .i64 ci))) := by
          show ∀ U, _ → _ → _
          intro U hU hj
          refine Hq.out _ (((hU.trans (Chg.setCell (F := fun b => b = P) (a := ⟨P, 0, none⟩) _ rfl _)).trans (Chg.setCell (F := fun b => b = P) (a := ⟨P, 1, none⟩) _ rfl _)).trans (Chg.setCell (F := fun b => b = P) (a := ⟨P, 2, none⟩) _ rfl _)) ?_
          exact from_at (vs := [.int .i64 ti, .int .i64 vi, .int .i64 ci]) ((hj P).trans Hk1.out.blk)
        have c1 := cell_n Hk1.out.blk 1 (v := .int .i64 k.v) rfl
        have c2 := cell_n Hk1.out.blk 2 (v := .int .i64 k.c) rfl
        have f0 := free_n Hk1.out.blk 0
        have f1 := free_n Hk1.out.blk 1
        have f2 := free_n Hk1.out.blk 2
        clear h1 h2
        go_wp2_with (first | go_quiet (fail) | go_region)
        all_goals
          first
          | exact Hst.out _ (Chg.drew _ _) (fun _ => rfl)
          | exact Hst.out _ (Chg.drewN _ _ _) (fun _ => rfl)
          | exact Hst.out _ ((Chg.drew _ _).trans (Chg.drew _ _)) (fun _ => rfl)
          | exact Hst.out _ (Chg.refl _ _) (fun _ => rfl)
theorem rdEnt_err0 {r : List UInt8} {z : Int} (h : full (rdEnt r) = .error z) : z ≠ 0 := full_err h (fun y hy => by
  unfold rdEnt at hy
  split at hy
  · rename_i hx; injection hy with hy; subst hy; exact rdNum_err hx
  · split at hy
    · rename_i hx; injection hy with hy; subst hy; exact rdNum_err hx
    · split at hy
      · rename_i hx; injection hy with hy; subst hy; exact rdNum_err hx
      · split at hy
        · rename_i hx; injection hy with hy; subst hy; exact rdText_err hx
        · split at hy
          · cases hy
          · injection hy with hy; subst hy; decide)
theorem rdSnap_err0 {r : List UInt8} {z : Int} (h : full (rdSnap r) = .error z) : z ≠ 0 := full_err h (fun y hy => by
  unfold rdSnap at hy
  split at hy
  · rename_i hx; injection hy with hy; subst hy; exact rdNum_err hx
  · split at hy
    · rename_i hx; injection hy with hy; subst hy; exact rdNum_err hx
    · split at hy
      · rename_i hx; injection hy with hy; subst hy; exact rdConf_err hx
      · split at hy
        · rename_i hx; injection hy with hy; subst hy; exact rdText_err hx
        · split at hy
          · cases hy
          · injection hy with hy; subst hy; decide)
set_option maxHeartbeats 4000000 in
set_option maxRecDepth 100000 in
theorem rec_snap (N : Nat → Prop) (T P : Nat) (k : Kp) (ev x y z cx cy cz : Value) (s r : List UInt8) (w : World) (hk : KeptAt N T w P k ev x y z cx cy cz) (hs : Body s 3 r) (hr : s.length ≤ 9223372036854775806) :
    Calls Try.prog 17 #[.pointer (some ⟨P, 0, none⟩), str s] w (RecPost N T P w (recSnap k r)) := by
  obtain ⟨post, HP⟩ := hide (RecPost N T P w (recSnap k r))
  rw [HP.out]
  obtain ⟨hl, hd, t0, hb1⟩ := hs
  have t1 : ((s[0].toNat : Int) == 1) = false := by rw [hb1]; rfl
  have t2 : ((s[0].toNat : Int) == 2) = false := by rw [hb1]; rfl
  have t3 : ((s[0].toNat : Int) == 3) = true := by rw [hb1]; rfl
  have hl1 : 1 ≤ s.length := hl
  have hrl : r.length ≤ 9223372036854775806 := by rw [← hd, List.length_drop]; omega
  have HG := Lib.hid (wire_getSnapshot r w (by omega))
  have Hres : Hid (∀ res, full (rdSnap r) = res → (∀ e, res = .error e → e ≠ 0 ∧ recSnap k r = none) ∧ (∀ q, res = .ok q → recSnap k r = some { k with si := q.index, st := q.term, sc := q.conf, sd := q.data, cf := q.conf, base := q.index, bt := q.term, es := [] })) := by
    show ∀ res, _ → _
    rintro res rfl
    exact ⟨fun e he => ⟨rdSnap_err0 he, by rw [recSnap, he]⟩, fun q he => by rw [recSnap, he]⟩
  obtain ⟨res, hres⟩ := hide (full (rdSnap r))
  have Hr := Hres.out res hres.out
  rw [hres.out] at HG
  have Hk := Lib.hid hk
  clear hk hb1 hrl
  go_enter Try.func17, Try.ntmps17
  go_wp2_with fail
  refine HG.out.mono ?_
  intro e w1 hp
  clear hl1 hd t0 t1 t2 t3 hr
  cases res with
  | error zz =>
    obtain ⟨rfl, hb⟩ := hp
    obtain ⟨hz, hn⟩ := Hr.1 zz rfl
    have tz : (zz != 0) = true := bne_iff_ne.2 hz
    have tz' : (zz == 0) = false := beq_eq_false_iff_ne.2 hz
    have Hq : Hid (∀ o, post (.returned (.bool false)) (w1.alloc o)) := by
      show ∀ o, _
      intro o
      rw [← HP.out, hn]
      exact ⟨(Chg.fresh _ hb).trans (Chg.alloc _ _ o), rfl⟩
    clear hz hb hn Hr
    dsimp only
    go_wp2_with fail
    exact Hq.out _
  | ok q =>
    obtain ⟨x', y', z', rfl, hcf, hb⟩ := hp
    have hrec := Hr.2 q rfl
    have Hk1 := Lib.hid (Hk.out.below hb)
    have Hb := Lib.hid (Chg.fresh (FP T P) hb)
    have HG1 : Hid (ConfG (fun b => b < w1.heap.size ∧ N b) w1 x' y' z' q.conf) := by
      show ConfG _ _ _ _ _ _
      exact ConfG.ofF hcf (fun b h1 h2 => ⟨h2, Hk.out.nt b (Nat.le_trans Hk.out.ts h1)⟩)
    obtain ⟨ax, cax, rfl⟩ := hcf.v.len
    obtain ⟨ay, cay, rfl⟩ := hcf.n.len
    obtain ⟨az, caz, rfl⟩ := hcf.l.len
    obtain ⟨qi, qt, qc, qd⟩ := q
    dsimp only at *
    obtain ⟨n1, hn1⟩ := hide qc.v.length
    obtain ⟨n2, hn2⟩ := hide qc.n.length
    obtain ⟨n3, hn3⟩ := hide qc.l.length
    rw [hn1.out, hn2.out, hn3.out] at HG1
    rw [hn1.out, hn2.out, hn3.out]
    obtain ⟨ii, hii⟩ := hide (qi : Int)
    obtain ⟨ti, hti⟩ := hide (qt : Int)
    rw [hii.out, hti.out] at hrec
    rw [hii.out, hti.out]
    obtain ⟨W, hW⟩ := hide (w1.alloc (.cells #[.int .i64 ii, .int .i64 ti, .slice ax n1 cax, .slice ay n2 cay, .slice az n3 caz, str qd] 31))
    obtain ⟨C, hC⟩ := hide w1.heap.size
    have hbW : Below w1.heap.size w1 W := by rw [← hW.out]; exact (Below.refl _ _).alloc (Nat.le_refl _) _
    have HkW := Lib.hid (Hk1.out.below hbW)
    have HCW : Hid (W.heap[C]? = some (.cells #[.int .i64 ii, .int .i64 ti, .slice ax n1 cax, .slice ay n2 cay, .slice az n3 caz, str qd] 31 (0, 0))) := by show _ = _; rw [← hW.out, ← hC.out]; exact hp_at _ _ rfl
    have HGW : Hid (ConfG (fun b => b < w1.heap.size ∧ N b) W (.slice ax n1 cax) (.slice ay n2 cay) (.slice az n3 caz) qc) := HG1.out.frame (Agree.below hbW)
    have HbW : Hid (Chg (FP T P) w W) := Hb.out.trans (Chg.fresh _ hbW)
    have HCP : Hid (C ≠ P ∧ T ≤ w1.heap.size ∧ w1.heap.size ≤ W.heap.size ∧ P < w1.heap.size) := by
      have h1 := lt_of_block Hk1.out.blk
      exact ⟨by rw [← hC.out]; omega, Hk1.out.ts, hbW.size, h1⟩
    have Hq : Hid (∀ U, Chg (fun b => b = P) W U → U.heap[P]? = some (.cells (cellsK { k with si := ii, st := ti, sc := qc, sd := qd, cf := qc, base := ii, bt := ti, es := [] } (.slice none 0 0) (.slice ax n1 cax) (.slice ay n2 cay) (.slice az n3 caz) (.slice ax n1 cax) (.slice ay n2 cay) (.slice az n3 caz)) 33 (0, 0)) → post (.returned (.bool true)) U) := by
      show ∀ U, _ → _ → _
      intro U hU hbU
      rw [← HP.out, hrec]
      have hag : Agree (fun b => b < w1.heap.size ∧ N b) W U := hU.agree (fun b hb e => HkW.out.np (e ▸ hb.2))
      have hG := HGW.out.frame hag
      exact ⟨HbW.out.trans (hU.mono (fun b _ hb => Or.inl hb)), rfl, w1.heap.size, _, _, _, _, _, _, _, HCP.out.2.1, ⟨hbU, World.ownsRow_nil _ _ _ _, hG, hG, HCP.out.2.2.2, Nat.le_trans HCP.out.2.2.1 hU.size, HkW.out.np, fun b hb => HkW.out.nt b (Nat.le_trans HCP.out.2.1 hb)⟩⟩
    clear hb hcf Hr hrec hbW
    try dsimp only
    go_upto_region 20 with fail
    rw [hW.out, hC.out]
    have c0 := cell_n HCW.out 0 (v := .int .i64 ii) rfl
    have c1 := cell_n HCW.out 1 (v := .int .i64 ti) rfl
    have c2 := cell_n HCW.out 2 (v := .slice ax n1 cax) rfl
    have c3 := cell_n HCW.out 3 (v := .slice ay n2 cay) rfl
    have c4 := cell_n HCW.out 4 (v := .slice az n3 caz) rfl
    have c5 := cell_n HCW.out 5 (v := str qd) rfl
    have d6 := cell_n HkW.out.blk 6 rfl
    have d7 := cell_n HkW.out.blk 7 rfl
    have d8 := cell_n HkW.out.blk 8 rfl
    have d9 := cell_n HkW.out.blk 9 rfl
    have d10 := cell_n HkW.out.blk 10 rfl
    have d11 := cell_n HkW.out.blk 11 rfl
    have d12 := cell_n HkW.out.blk 12 rfl
    have d13 := cell_n HkW.out.blk 13 rfl
    have d14 := cell_n HkW.out.blk 14 rfl
    have f6 := free_n HkW.out.blk 6
    have f7 := free_n HkW.out.blk 7
    have f8 := free_n HkW.out.blk 8
    have f9 := free_n HkW.out.blk 9
    have f10 := free_n HkW.out.blk 10
    have f11 := free_n HkW.out.blk 11
    have f12 := free_n HkW.out.blk 12
    have f13 := free_n HkW.out.blk 13
    have f14 := free_n HkW.out.blk 14
    go_upto_region 22 with fail
    go_cut [137] from 129 to 137 (fun s wx => Hid (Chg (fun b => b = P) W wx) ∧ Hid (wx.heap[P]? = some (.cells (cellsK { k with si := ii, st := ti, sd := qd } ev (.slice ax n1 cax) (.slice ay n2 cay) (.slice az n3 caz) (.slice ax n1 cax) (.slice ay n2 cay) (.slice az n3 caz)) 33 (0, 0))))
    case first =>
      have Hst : Hid (∀ V, V = setFrom (setFrom W P 6 [.int .i64 ii, .int .i64 ti, .slice ax n1 cax, .slice ay n2 cay, .slice az n3 caz, str qd]) P 12 [.slice ax n1 cax, .slice ay n2 cay, .slice az n3 caz] → Hid (Chg (fun b => b = P) W V.drew) ∧ Hid (V.drew.heap[P]? = some (.cells (cellsK { k with si := ii, st := ti, sd := qd } ev (.slice ax n1 cax) (.slice ay n2 cay) (.slice az n3 caz) (.slice ax n1 cax) (.slice ay n2 cay) (.slice az n3 caz)) 33 (0, 0)))) := by
        show ∀ V, _ → _
        rintro V rfl
        refine ⟨((chg_from P _ W 6).trans (chg_from P _ _ 12)).trans (Chg.drew _ _), ?_⟩
        show (World.drew _).heap[P]? = _
        rw [hp_drew]
        have h := from_at (vs := [.slice ax n1 cax, .slice ay n2 cay, .slice az n3 caz]) (i := 12) (from_at (vs := [.int .i64 ii, .int .i64 ti, .slice ax n1 cax, .slice ay n2 cay, .slice az n3 caz, str qd]) (i := 6) HkW.out.blk)
        exact h
      go_region
      all_goals
        go_wp2_with fail
        go_meet
        exact Hst.out _ rfl
    case rest =>
      obtain ⟨U, hU⟩ : ∃ U, U = wc := ⟨_, rfl⟩
      subst hU
      obtain ⟨hcU, hbU⟩ := hcut
      have hCU : U.heap[C]? = some (.cells #[.int .i64 ii, .int .i64 ti, .slice ax n1 cax, .slice ay n2 cay, .slice az n3 caz, str qd] 31 (0, 0)) := hcU.out.at HCW.out HCP.out.1
      have Hst : Hid (post (.returned (.bool true)) (setFrom U P 3 [.int .i64 ii, .int .i64 ti, .slice none 0 0])) := by
        show post _ _
        refine Hq.out _ (hcU.out.trans (chg_from P _ U 3)) ?_
        exact from_at hbU.out
      clear c0 c1 c2 c3 c4 c5 d6 d7 d8 d9 d10 d11 d12 d13 d14 f6 f7 f8 f9 f10 f11 f12 f13 f14
      have c0 := cell_n hCU 0 (v := .int .i64 ii) rfl
      have c1 := cell_n hCU 1 (v := .int .i64 ti) rfl
      have d3 := cell_n hbU.out 3 rfl
      have d4 := cell_n hbU.out 4 rfl
      have d5 := cell_n hbU.out 5 rfl
      have f3 := free_n hbU.out 3
      have f4 := free_n hbU.out 4
      have f5 := free_n hbU.out 5
      clear hCU
      go_wp2_with fail
      exact Hst.out
end Go.Proofs.Ytjlhlmnoomiblaa
