/-
  What was kept is there, in plain words: records one behind the other, the last one torn.
-/
import Derived.Test.YtjlhlmnoomiblaaZ22
import Derived.Test.YtjlhlmnoomiblaaZ23
import Derived.Test.YtjlhlmnoomiblaaZ42
namespace Go.Proofs.Ytjlhlmnoomiblaa
open Wm Mm Lg Fl
set_option linter.unusedVariables false
set_option linter.unusedSimpArgs false

theorem rdEnt_putW {i t k : Nat} {d : List UInt8} (hok : isEntry i t k d = true) (s : List UInt8) : rdEnt (putEnt i t k d ++ s) = .ok (⟨i, t, k, d⟩, s) := by
  have hok' := hok
  simp only [isEntry, Bool.and_eq_true, decide_eq_true_eq] at hok'
  obtain ⟨h1, h2, h3, h4, _⟩ := hok'
  have b1 := inB_of h1
  have b2 := inB_of h2
  have b3 := inB_of h3
  unfold rdEnt putEnt
  rw [List.append_assoc, rdNum_put (by omega)]
  simp only []
  rw [List.append_assoc, rdNum_put (by omega)]
  simp only []
  rw [List.append_assoc, rdNum_put (by omega)]
  simp only []
  rw [rdText_put d (by omega) h4]
  simp only []
  rw [if_pos hok]
theorem rdList_putW {l : List Nat} (h : ∀ n ∈ l, n ≤ 9) (h9 : l.length ≤ 9) (s : List UInt8) : rdList 9 (putList l ++ s) = .ok (l, s) := by
  unfold rdList putList
  rw [List.append_assoc, rdUpTo_put (by omega) h9]
  simp only []
  have := rdMany_put l [] s (fun n hn => by have := h n hn; omega)
  rw [List.nil_append] at this
  exact this
theorem rdConf_putW {c : Conf} (hok : validB c = true) (s : List UInt8) : rdConf (putConf c ++ s) = .ok (c, s) := by
  obtain ⟨m1, m2, m3, rfl, a1, a2, a3, b1, b2, b3⟩ := valid_facts hok
  unfold rdConf putConf
  simp only [natL_ints, List.append_assoc]
  rw [rdList_putW a1 b1]
  simp only []
  rw [rdList_putW a2 b2]
  simp only []
  rw [rdList_putW a3 b3]
  simp only []
  rw [if_pos hok]
theorem rdSnap_putW {i t : Nat} {c : Conf} {d : List UInt8} (hok : isSnap i t c d = true) (s : List UInt8) : rdSnap (putSnap i t c d ++ s) = .ok (⟨i, t, c, d⟩, s) := by
  obtain ⟨a, b, ha, hb, h1, h2, h3, h4⟩ := isSnap_facts hok
  unfold rdSnap putSnap
  rw [List.append_assoc, rdNum_put (by omega)]
  simp only []
  rw [List.append_assoc, rdNum_put (by omega)]
  simp only []
  rw [List.append_assoc, rdConf_putW h3]
  simp only []
  rw [rdText_put d (by omega) h4]
  simp only []
  rw [if_pos hok]
theorem recHard_put {k : Kp} {t v c : Nat} (ht : k.t ≤ t) (hv : v ≤ 9) (h1 : t ≤ 1099511627775) (h3 : c ≤ 1099511627775) : recHard k (putNum t ++ (putNum v ++ putNum c)) = some { k with t := t, v := v, c := c } := by
  have h := rdMany_put [t, v, c] [] [] (by intro n hn; simp at hn; rcases hn with rfl | rfl | rfl <;> omega)
  have e : ([t, v, c].flatMap putNum ++ []) = putNum t ++ (putNum v ++ putNum c) := by simp
  rw [e] at h
  unfold recHard
  have h' : rdMany 3 [] (putNum t ++ (putNum v ++ putNum c)) = .ok ([t, v, c], []) := h
  rw [h']
  simp only [full]
  rw [if_neg (by omega)]
theorem recEnt_put {k : Kp} {e : EntP} (hok : isEntry e.idx e.trm e.knd e.dat = true) (hi : e.idx = endK k + 1) (hl : logB k.base k.bt (k.es ++ [e]) = true) : recEnt k (putEntB e.idx e.trm e.knd e.dat) = some { k with es := k.es ++ [e] } := by
  obtain ⟨i, t, kn, d⟩ := e
  have hok' := hok
  simp only [isEntry, Bool.and_eq_true] at hok'
  obtain ⟨h1, h2, h3, _⟩ := hok'
  have b1 := inB_of h1
  have b2 := inB_of h2
  have b3 := inB_of h3
  obtain ⟨i, rfl⟩ : ∃ n : Nat, i = n := ⟨i.toNat, by omega⟩
  obtain ⟨t, rfl⟩ : ∃ n : Nat, t = n := ⟨t.toNat, by omega⟩
  obtain ⟨kn, rfl⟩ : ∃ n : Nat, kn = n := ⟨kn.toNat, by omega⟩
  have h := rdEnt_putW hok []
  rw [List.append_nil] at h
  dsimp only at hi hl ⊢
  rw [putEntB, if_pos hok]
  unfold recEnt
  simp only [Int.toNat_natCast]
  rw [h]
  simp only [full]
  rw [if_neg (by unfold endK at hi ⊢; omega)]
  have ht : ((i : Int) - k.base - 1).toNat = k.es.length := by unfold endK at hi; omega
  rw [ht, List.take_length]
  have e2 : toE ⟨i, t, kn, d⟩ = ⟨i, t, kn, d⟩ := rfl
  rw [e2, if_pos hl]
theorem recSnap_put {k : Kp} {i t : Int} {c : Conf} {d : List UInt8} (hok : isSnap i t c d = true) : recSnap k (putSnapB i t c d) = some { k with si := i, st := t, sc := c, sd := d, cf := c, base := i, bt := t, es := [] } := by
  obtain ⟨a, b, rfl, rfl, h1, h2, h3, h4⟩ := isSnap_facts hok
  have h := rdSnap_putW hok []
  rw [List.append_nil] at h
  rw [putSnapB, if_pos hok]
  unfold recSnap
  simp only [Int.toNat_natCast]
  rw [h]
  simp only [full]
/-- a file's bytes s, read on k0, say k, and what stands behind them is read on k -/
def Says (k0 : Kp) (s : List UInt8) (k : Kp) : Prop := ∀ x, goP k0 (s ++ x) = goP k x
theorem Says.nil (k : Kp) : Says k [] k := fun _ => rfl
theorem Says.trans {a b c : Kp} {s t : List UInt8} (h : Says a s b) (g : Says b t c) : Says a (s ++ t) c := fun x => by rw [List.append_assoc, h, g]
theorem frame_ne (b : List UInt8) : frame b ≠ [] := by
  intro h
  have := congrArg List.length h
  rw [frame, List.length_append, sumBytes_length] at this
  simp at this
theorem recB_ne {x : UInt8} {b : List UInt8} (hb : b.length ≤ 65535) : recB x b ≠ [] := by
  unfold recB frameB
  rw [if_neg (by rw [List.length_cons]; omega)]
  exact frame_ne _
theorem Says.rec {k k' : Kp} {x : UInt8} {b : List UInt8} (hb : b.length ≤ 65535) (hr : recP k (x :: b) = some k') : Says k (recB x b) k' := fun t => by
  have h : unframe (recB x b ++ t) = .ok (x :: b, t) := by
    unfold recB frameB
    rw [if_neg (by rw [List.length_cons]; omega)]
    exact unframe_frame _ _ (by rw [List.length_cons]; omega)
  exact goP_on (fun e => recB_ne (x := x) hb (List.append_eq_nil_iff.1 e).1) h hr
theorem goP_torn {k : Kp} {x : UInt8} {b : List UInt8} (hb : b.length ≤ 65535) {n : Nat} (h0 : 0 < n) (hn : n < (recB x b).length) : goP k ((recB x b).take n) = some (k, (recB x b).take n) := by
  have h : unframe ((recB x b).take n) = .error 3 := by
    unfold recB frameB at hn ⊢
    rw [if_neg (by rw [List.length_cons]; omega)] at hn ⊢
    exact unframe_cut _ _ (by rw [List.length_cons]; omega) hn
  refine goP_end (fun e => ?_) h
  have hh := congrArg List.length e
  rw [List.length_take, List.length_nil, Nat.min_eq_left (Nat.le_of_lt hn)] at hh
  omega
theorem recP_hard {k : Kp} {t v c : Int} (h0 : 0 ≤ t ∧ 0 ≤ v ∧ 0 ≤ c) (ht : k.t ≤ t) (hv : v ≤ 9) (h1 : t ≤ 1099511627775) (h3 : c ≤ 1099511627775) : Says k (hardB t v c) { k with t := t, v := v, c := c } := by
  have hl := putNum_len10 (n := t.toNat) (by omega)
  have hl2 := putNum_len10 (n := v.toNat) (by omega)
  have hl3 := putNum_len10 (n := c.toNat) (by omega)
  refine Says.rec (by simp; omega) ?_
  have h := recHard_put (k := k) (t := t.toNat) (v := v.toNat) (c := c.toNat) (by omega) (by omega) (by omega) (by omega)
  simp only [recP, if_true]
  rw [h, Int.toNat_of_nonneg h0.1, Int.toNat_of_nonneg h0.2.1, Int.toNat_of_nonneg h0.2.2]
theorem recP_ent {k : Kp} {e : EntP} (hok : isEntry e.idx e.trm e.knd e.dat = true) (hi : e.idx = endK k + 1) (hl : logB k.base k.bt (k.es ++ [e]) = true) : Says k (entB e) { k with es := k.es ++ [e] } := by
  have := putEntB_len e.idx e.trm e.knd e.dat
  refine Says.rec (by omega) ?_
  have e1 : (2 : UInt8) ≠ 1 := by decide
  simp only [recP, e1, if_false, if_true]
  exact recEnt_put hok hi hl
theorem recP_snap {k : Kp} {i t : Int} {c : Conf} {d : List UInt8} (hok : isSnap i t c d = true) (hlen : (putSnapB i t c d).length ≤ 65535) : Says k (recB 3 (putSnapB i t c d)) { k with si := i, st := t, sc := c, sd := d, cf := c, base := i, bt := t, es := [] } := by
  refine Says.rec hlen ?_
  have e1 : (3 : UInt8) ≠ 1 := by decide
  have e2 : (3 : UInt8) ≠ 2 := by decide
  simp only [recP, e1, e2, if_false, if_true]
  exact recSnap_put hok
/-- the configuration that the law begins with -/
abbrev c12 : Conf := ⟨[1, 2], [], []⟩
theorem c12_ok : validB c12 = true := by decide +kernel
/-- what is known behind n rounds, and a file that says it -/
structure Stk (n : Nat) (k : Kp) (s : List UInt8) : Prop where
  says : Says (zeroK c12) s k
  inv : InvK k
  cf : k.cf = c12
  lt : lastT k.bt k.es ≤ k.t
  cc : k.base ≤ k.c ∧ k.c ≤ endK k
  tn : k.t ≤ n
  en : endK k ≤ n
  v9 : k.v ≤ 9
  len : s.length ≤ 10000 * n
theorem Stk.zero : Stk 0 (zeroK c12) [] := ⟨Says.nil _, InvK.zero _, rfl, by simp [zeroK, lastT], by simp [zeroK, endK], by simp [zeroK], by simp [zeroK, endK], by simp [zeroK], by simp⟩
theorem Stk.fix {n : Nat} {k : Kp} {s : List UInt8} (h : Stk n k s) : fixK k = k := by
  have h1 : upC k = k.c := by unfold upC; have := h.cc; omega
  unfold fixK
  rw [if_neg (by have := h.lt; omega), h1]
/-- the entry that a round writes -/
abbrev newE (k : Kp) (t : Int) (b : UInt8) : EntP := ⟨endK k + 1, t, 1, [b]⟩
abbrev appK (k : Kp) (t v : Int) (b : UInt8) : Kp := { k with t := t, v := v, c := endK k, es := k.es ++ [newE k t b] }
abbrev appB (k : Kp) (t v : Int) (b : UInt8) : List UInt8 := hardB t v (endK k) ++ entB (newE k t b)
theorem lastT_snoc (bt : Int) (es : List EntP) (e : EntP) : lastT bt (es ++ [e]) = e.trm := by simp [lastT]
theorem lowT_at {bt : Int} {es : List EntP} {e : EntP} : lowT bt (es ++ [e]) es.length = lastT bt es := by
  rcases Nat.eq_zero_or_pos es.length with h0 | h0
  · have : es = [] := List.eq_nil_of_length_eq_zero h0
    subst this
    rfl
  · obtain ⟨m, hm⟩ : ∃ m, es.length = m + 1 := ⟨es.length - 1, by omega⟩
    have e2 : lowT bt (es ++ [e]) es.length = lowT bt (es ++ [e]) (m + 1) := by rw [hm]
    rw [e2, lastT_cons hm]
    simp only [lowT]
    rw [List.getElem?_append_left (by omega), List.getElem?_eq_getElem (by omega)]
theorem lowT_left {bt : Int} {es : List EntP} {e : EntP} {j : Nat} (h : j < es.length) : lowT bt (es ++ [e]) j = lowT bt es j := by
  cases j with
  | zero => rfl
  | succ j => simp only [lowT]; rw [List.getElem?_append_left (by omega)]
theorem logB_snoc {base bt : Int} {es : List EntP} {e : EntP} (h : logB base bt es = true) (hok : isEntry e.idx e.trm e.knd e.dat = true) (hi : e.idx = base + es.length + 1) (ht : lastT bt es ≤ e.trm) : logB base bt (es ++ [e]) = true := by
  unfold logB at h ⊢
  rw [Bool.and_eq_true] at h ⊢
  refine ⟨h.1, allB_all (fun i p hi2 hp => ?_)⟩
  rw [List.length_append] at hi2
  simp at hi2
  rcases Nat.lt_or_ge i es.length with hl | hl
  · rw [List.getElem?_append_left hl] at hp
    have h2 := h.2
    unfold allB at h2
    have h3 := (List.all_eq_true.1 h2) i (List.mem_range.2 hl)
    rw [hp] at h3
    have h4 : okAtL base bt es i p = true := h3
    unfold okAtL at h4 ⊢
    rw [lowT_left hl]
    exact h4
  · obtain rfl : i = es.length := by omega
    rw [List.getElem?_append_right (Nat.le_refl _), Nat.sub_self] at hp
    injection hp with hp
    subst hp
    unfold okAtL
    rw [lowT_at, hok, Bool.true_and, Bool.and_eq_true]
    refine ⟨by rw [hi]; simp; omega, ?_⟩
    rw [Bool.not_eq_true', decide_eq_false_iff_not]
    omega
theorem newE_ok {n : Nat} {k : Kp} {s : List UInt8} (h : Stk n k s) (hn : n ≤ 30) {t : Int} (b : UInt8) (h1 : 1 ≤ t) (h2 : t ≤ n + 1) : isEntry (newE k t b).idx (newE k t b).trm (newE k t b).knd (newE k t b).dat = true := by
  have h3 := h.en
  have h4 := h.inv.ok.b0
  have h5 : 0 ≤ endK k := by unfold endK; omega
  simp only [isEntry, inB, newE, Bool.and_eq_true, decide_eq_true_eq, List.length_cons, List.length_nil]
  refine ⟨⟨by omega, by omega⟩, ⟨by omega, by omega⟩, ⟨by omega, by omega⟩, by omega, ?_⟩
  simp
theorem hardB_len {t v c : Int} (h : t.toNat < 9223372036854775808 ∧ v.toNat < 9223372036854775808 ∧ c.toNat < 9223372036854775808) : (hardB t v c).length ≤ 60 := by
  have hl := putNum_len10 (n := t.toNat) h.1
  have hl2 := putNum_len10 (n := v.toNat) h.2.1
  have hl3 := putNum_len10 (n := c.toNat) h.2.2
  have h5 := putNum_len10 (n := (putNum t.toNat ++ (putNum v.toNat ++ putNum c.toNat)).length + 1) (by simp; omega)
  unfold hardB recB frameB
  rw [if_neg (by simp; omega)]
  rw [frame, List.length_append, sumBytes_length, putText, List.length_append]
  simp only [List.length_cons, List.length_append] at h5 ⊢
  omega
theorem entB_len (e : EntP) : (entB e).length ≤ 310 := by
  have h1 := putEntB_len e.idx e.trm e.knd e.dat
  have h5 := putNum_len10 (n := (putEntB e.idx e.trm e.knd e.dat).length + 1) (by omega)
  unfold entB recB frameB
  rw [if_neg (by simp; omega)]
  rw [frame, List.length_append, sumBytes_length, putText, List.length_append]
  simp only [List.length_cons] at h5 ⊢
  omega
theorem Stk.says_hard {n : Nat} {k : Kp} {s : List UInt8} (h : Stk n k s) (hn : n ≤ 30) {t v : Int} (h2 : t ≤ n + 1) (h3 : k.t ≤ t) (h4 : 0 ≤ v) (h5 : v ≤ 9) : Says k (hardB t v (endK k)) { k with t := t, v := v, c := endK k } := by
  have h6 := h.inv.t
  have h7 := h.en
  have h8 := h.inv.ok.b0
  have h9 : 0 ≤ endK k := by unfold endK; omega
  exact recP_hard ⟨by omega, h4, h9⟩ h3 h5 (by omega) (by omega)
theorem Stk.says_ent {n : Nat} {k : Kp} {s : List UInt8} (h : Stk n k s) (hn : n ≤ 30) {t v : Int} (b : UInt8) (h1 : 1 ≤ t) (h2 : t ≤ n + 1) (h3 : k.t ≤ t) : Says { k with t := t, v := v, c := endK k } (entB (newE k t b)) (appK k t v b) := by
  refine recP_ent (k := { k with t := t, v := v, c := endK k }) (newE_ok h hn b h1 h2) rfl ?_
  exact logB_snoc h.inv.log (newE_ok h hn b h1 h2) rfl (by have := h.lt; show lastT k.bt k.es ≤ t; omega)
/-- a round's record -/
theorem Stk.app {n : Nat} {k : Kp} {s : List UInt8} (h : Stk n k s) (hn : n ≤ 30) {t v : Int} (b : UInt8) (h1 : 1 ≤ t) (h2 : t ≤ n + 1) (h3 : k.t ≤ t) (h4 : 0 ≤ v) (h5 : v ≤ 9) : Stk (n + 1) (appK k t v b) (s ++ appB k t v b) := by
  have h6 := h.en
  have h8 := h.inv.ok.b0
  have h9 : 0 ≤ endK k := by unfold endK; omega
  have hl : (k.es ++ [newE k t b]).length = k.es.length + 1 := by simp
  have hend : endK (appK k t v b) = endK k + 1 := by unfold endK; rw [hl]; push_cast; omega
  have hlog : logB k.base k.bt (k.es ++ [newE k t b]) = true := logB_snoc h.inv.log (newE_ok h hn b h1 h2) rfl (by have := h.lt; show lastT k.bt k.es ≤ t; omega)
  refine ⟨h.says.trans ((h.says_hard hn h2 h3 h4 h5).trans (h.says_ent hn b h1 h2 h3)), ⟨⟨by show 0 ≤ t; omega, by show t ≤ _; omega⟩, ⟨h4, by show v ≤ _; omega⟩, ⟨h9, by show endK k ≤ _; omega⟩, hlog, by rw [hl]; have := h.inv.n; unfold endK at h6; omega⟩, h.cf, ?_, ?_, by show t ≤ _; omega, by rw [hend]; omega, h5, ?_⟩
  · show lastT k.bt (k.es ++ [newE k t b]) ≤ t
    rw [lastT_snoc]
    exact Int.le_refl _
  · rw [hend]
    show k.base ≤ endK k ∧ endK k ≤ endK k + 1
    unfold endK
    omega
  · have g1 := hardB_len (t := t) (v := v) (c := endK k) ⟨by omega, by omega, by omega⟩
    have g2 := entB_len (newE k t b)
    have g3 := h.len
    rw [List.length_append, List.length_append]
    omega
/-- cut to a snapshot and the one entry behind it -/
abbrev cutK (k : Kp) (t v : Int) (b : UInt8) : Kp := { t := t, v := v, c := endK k, base := endK k, bt := lastT k.bt k.es, es := [newE k t b], si := endK k, st := lastT k.bt k.es, sc := c12, sd := [115, 116, 97, 116, 101], cf := c12 }
abbrev cutB (k : Kp) (t v : Int) (b : UInt8) : List UInt8 := cutD t v (endK k) [newE k t b] (endK k) (lastT k.bt k.es) c12 [115, 116, 97, 116, 101]
theorem Stk.cutOk {n : Nat} {k : Kp} {s : List UInt8} (h : Stk n k s) (hn : n ≤ 30) (hb : k.base < endK k) : isSnap (endK k) (lastT k.bt k.es) c12 [115, 116, 97, 116, 101] = true := by
  have h6 := h.en
  have h8 := h.inv.ok.b0
  have h7 := h.lt
  have h9 := h.tn
  have h10 : 1 ≤ lastT k.bt k.es := by
    have hpos : 0 < k.es.length := by unfold endK at hb; omega
    obtain ⟨m, hm⟩ : ∃ m, k.es.length = m + 1 := ⟨k.es.length - 1, by omega⟩
    rw [lastT_cons hm]
    have hl := h.inv.log
    unfold logB allB at hl
    simp only [Bool.and_eq_true] at hl
    have h2 := (List.all_eq_true.1 hl.2) m (List.mem_range.2 (by omega))
    rw [List.getElem?_eq_getElem (by omega)] at h2
    simp only [okAtL, isEntry, inB, Bool.and_eq_true, decide_eq_true_eq] at h2
    exact h2.1.2.1.1
  simp only [isSnap, inB, Bool.and_eq_true, decide_eq_true_eq]
  exact ⟨⟨by omega, by omega⟩, ⟨by omega, by omega⟩, c12_ok, by simp⟩
theorem recB_lenC (x : UInt8) {l : List UInt8} {m : Nat} (h : l.length ≤ m) (hm : m ≤ 60000) : (recB x l).length ≤ m + 20 := by
  have h5 := putNum_len10 (n := l.length + 1) (by omega)
  unfold recB frameB
  rw [if_neg (by simp; omega)]
  rw [frame, List.length_append, sumBytes_length, putText, List.length_append]
  simp only [List.length_cons] at h5 ⊢
  omega
theorem Stk.cut {n : Nat} {k : Kp} {s : List UInt8} (h : Stk n k s) (hn : n ≤ 30) {t v : Int} (b : UInt8) (h1 : 1 ≤ t) (h2 : t ≤ n + 1) (h3 : k.t ≤ t) (h4 : 0 ≤ v) (h5 : v ≤ 9) (hb : k.base < endK k) (hlen : (putSnapB (endK k) (lastT k.bt k.es) c12 [115, 116, 97, 116, 101]).length ≤ 8600) : Stk (n + 1) (cutK k t v b) (cutB k t v b) := by
  have h6 := h.en
  have h8 := h.inv.ok.b0
  have h9 : 0 ≤ endK k := by unfold endK; omega
  have hok := h.cutOk hn hb
  have hsn : 1 ≤ lastT k.bt k.es := by
    simp only [isSnap, inB, Bool.and_eq_true, decide_eq_true_eq] at hok
    exact hok.2.1.1
  have h7 := h.lt
  have hlogN : logB (endK k) (lastT k.bt k.es) [] = true := by
    simp only [logB, headB, allB, inB, List.length_nil, List.range_zero, List.all_nil, Bool.and_true, Bool.and_eq_true, decide_eq_true_eq]
    refine ⟨⟨by omega, by omega⟩, ⟨by omega, by omega⟩, ?_⟩
    have e1 : (endK k == 0) = false := beq_eq_false_iff_ne.2 (by omega)
    have e2 : (lastT k.bt k.es == 0) = false := beq_eq_false_iff_ne.2 (by omega)
    rw [e1, e2]
    rfl
  have hlog : logB (endK k) (lastT k.bt k.es) [newE k t b] = true := by
    have := logB_snoc (e := newE k t b) hlogN (newE_ok h hn b h1 h2) (by show endK k + 1 = _; simp) (by show lastT (lastT k.bt k.es) [] ≤ t; simp [lastT] at h7 ⊢; omega)
    simpa using this
  have s1 := recP_snap (k := zeroK c12) hok (by omega)
  have s2 := recP_hard (k := { zeroK c12 with si := endK k, st := lastT k.bt k.es, sc := c12, sd := [115, 116, 97, 116, 101], cf := c12, base := endK k, bt := lastT k.bt k.es, es := [] }) (t := t) (v := v) (c := endK k) ⟨by omega, h4, h9⟩ (by show (0 : Int) ≤ t; omega) h5 (by omega) (by omega)
  have s3 := recP_ent (k := { zeroK c12 with t := t, v := v, c := endK k, si := endK k, st := lastT k.bt k.es, sc := c12, sd := [115, 116, 97, 116, 101], cf := c12, base := endK k, bt := lastT k.bt k.es, es := [] }) (e := newE k t b) (newE_ok h hn b h1 h2) (by show endK k + 1 = endK _ + 1; simp [endK]) (by simpa using hlog)
  have hend : endK (cutK k t v b) = endK k + 1 := by show endK k + (1 : Int) = _; rfl
  refine ⟨?_, ⟨⟨by show 0 ≤ t; omega, by show t ≤ _; omega⟩, ⟨h4, by show v ≤ _; omega⟩, ⟨h9, by show endK k ≤ _; omega⟩, hlog, by simp⟩, rfl, ?_, ?_, by show t ≤ _; omega, by rw [hend]; omega, h5, ?_⟩
  · have := s1.trans (s2.trans s3)
    unfold cutB cutD entsB snapB
    simpa using this
  · show lastT _ [newE k t b] ≤ t
    simp [lastT]
  · rw [hend]
    show endK k ≤ endK k ∧ endK k ≤ endK k + 1
    omega
  · have g1 := hardB_len (t := t) (v := v) (c := endK k) ⟨by omega, by omega, by omega⟩
    have g2 := entB_len (newE k t b)
    have g3 := recB_lenC 3 hlen (by omega)
    unfold cutB cutD snapB entsB
    rw [List.length_append, List.length_append]
    simp only [List.flatMap_cons, List.flatMap_nil, List.append_nil]
    omega
/-- what one file says -/
theorem openP_one (s : List UInt8) : openP [⟨nLog, s⟩] c12 = match goP (zeroK c12) s with | none => none | some (k, rest) => if confOk k.cf = true then some (fixK k, cutOff s rest ++ fixA k) else none := by
  have h1 : okF [⟨nLog, s⟩] = true := decide_eq_true (fun k hk => by
    have : k = 0 := by simp at hk; exact hk
    subst this
    exact ⟨Or.inl rfl, fun j hj => absurd hj (Nat.not_lt_zero _)⟩)
  unfold openP
  rw [h1]
  have h2 : logD [⟨nLog, s⟩] = s := by simp [logD]
  have h3 : newA [⟨nLog, s⟩] = [] := by simp [newA]
  rw [h2, h3]
  rfl
theorem confOk12 : confOk c12 = true := by unfold confOk; rw [c12_ok]; rfl
theorem open_of {s rest : List UInt8} {k : Kp} (h : goP (zeroK c12) s = some (k, rest)) (hc : k.cf = c12) : openP [⟨nLog, s⟩] c12 = some (fixK k, cutOff s rest ++ fixA k) := by
  rw [openP_one, h]
  simp only []
  rw [if_pos (by rw [hc]; exact confOk12)]
theorem Stk.open {n : Nat} {k : Kp} {s : List UInt8} (h : Stk n k s) : openP [⟨nLog, s⟩] c12 = some (k, []) := by
  have h1 := h.says []
  rw [List.append_nil, goP_nil] at h1
  rw [open_of h1 h.cf, h.fix]
  have h2 : fixA k = [] := by unfold fixA sameH; rw [h.fix]; simp
  rw [h2]
  simp [cutOff]
/-- the last record torn anywhere -/
theorem Stk.torn {n : Nat} {k : Kp} {s : List UInt8} (h : Stk n k s) (hn : n ≤ 30) {t v : Int} (b : UInt8) (h1 : 1 ≤ t) (h2 : t ≤ n + 1) (h3 : k.t ≤ t) (h4 : 0 ≤ v) (h5 : v ≤ 9) (m : Nat) (hm : m ≤ (appB k t v b).length) :
    ∃ g al, openP [⟨nLog, s ++ (appB k t v b).take m⟩] c12 = some (g, al) ∧ (m = (appB k t v b).length → g = appK k t v b ∧ al = []) ∧ (al.length ≤ 2) ∧ (m < (appB k t v b).length → g = k ∨ g = { k with t := t, v := v, c := endK k }) := by
  rcases Nat.eq_zero_or_pos m with h0 | h0
  · subst h0
    have := h.open
    rw [List.take_zero, List.append_nil]
    refine ⟨k, [], this, fun e => ?_, by simp, fun _ => Or.inl rfl⟩
    exfalso
    have := congrArg List.length (List.append_eq_nil_iff.1 (List.eq_nil_of_length_eq_zero e.symm)).1
    have hne := recB_ne (x := 1) (b := putNum t.toNat ++ (putNum v.toNat ++ putNum (endK k).toNat)) (by
      have hl := putNum_len10 (n := t.toNat) (by omega)
      have hl2 := putNum_len10 (n := v.toNat) (by omega)
      have hl3 := putNum_len10 (n := (endK k).toNat) (by have := h.en; omega)
      simp; omega)
    exact hne (List.append_eq_nil_iff.1 (List.eq_nil_of_length_eq_zero e.symm)).1
  · have hen := h.en
    have hbh : (putNum t.toNat ++ (putNum v.toNat ++ putNum (endK k).toNat)).length ≤ 65535 := by
      have hl := putNum_len10 (n := t.toNat) (by omega)
      have hl2 := putNum_len10 (n := v.toNat) (by omega)
      have hl3 := putNum_len10 (n := (endK k).toNat) (by omega)
      simp; omega
    have hbe : (putEntB (newE k t b).idx (newE k t b).trm (newE k t b).knd (newE k t b).dat).length ≤ 65535 := by
      have := putEntB_len (newE k t b).idx (newE k t b).trm (newE k t b).knd (newE k t b).dat
      omega
    have hfixk : fixA k = [] := by unfold fixA sameH; rw [h.fix]; simp
    have hb0 := h.inv.ok.b0
    have hup : upC { k with t := t, v := v, c := endK k } = endK k := by unfold upC; show max k.base (min (endK k) (endK k)) = endK k; unfold endK; omega
    have hfix2 : fixK { k with t := t, v := v, c := endK k } = { k with t := t, v := v, c := endK k } := by
      unfold fixK
      rw [if_neg (by have := h.lt; show ¬ t < lastT k.bt k.es; omega), hup]
    have hfixA2 : fixA { k with t := t, v := v, c := endK k } = [] := by unfold fixA sameH; rw [hfix2]; simp
    rcases Nat.lt_or_ge m (hardB t v (endK k)).length with hlt | hge
    · -- within the hard state
      have hT : (appB k t v b).take m = (hardB t v (endK k)).take m := List.take_append_of_le_length (Nat.le_of_lt hlt)
      have hg := goP_torn (k := k) (x := 1) hbh h0 hlt
      have hgo : goP (zeroK c12) (s ++ (appB k t v b).take m) = some (k, (appB k t v b).take m) := by rw [h.says, hT]; exact hg
      refine ⟨k, cutOff (s ++ (appB k t v b).take m) ((appB k t v b).take m), ?_, fun e => ?_, ?_, fun _ => Or.inl rfl⟩
      · rw [open_of hgo h.cf, h.fix, hfixk, List.append_nil]
      · rw [e, List.length_append] at hlt; omega
      · unfold cutOff; split <;> simp
    · have hsay := h.says.trans (h.says_hard hn h2 h3 h4 h5)
      have hT : (appB k t v b).take m = hardB t v (endK k) ++ (entB (newE k t b)).take (m - (hardB t v (endK k)).length) := by
        rw [List.take_append, List.take_of_length_le hge]
      have hmb : m - (hardB t v (endK k)).length ≤ (entB (newE k t b)).length := by rw [List.length_append] at hm; omega
      rcases Nat.eq_zero_or_pos (m - (hardB t v (endK k)).length) with hz | hz
      · have hgo : goP (zeroK c12) (s ++ (appB k t v b).take m) = some ({ k with t := t, v := v, c := endK k }, []) := by
          rw [hT, hz, List.take_zero, List.append_nil]
          have := hsay []
          rw [List.append_nil, goP_nil] at this
          exact this
        refine ⟨{ k with t := t, v := v, c := endK k }, [], ?_, fun e => ?_, by simp, fun _ => Or.inr rfl⟩
        · rw [open_of hgo h.cf, hfix2, hfixA2]
          simp [cutOff]
        · exfalso
          have he := recB_ne (x := 2) hbe
          rw [List.length_append] at e
          exact he (List.eq_nil_of_length_eq_zero (by show (entB (newE k t b)).length = 0; omega))
      · rcases Nat.lt_or_ge (m - (hardB t v (endK k)).length) (entB (newE k t b)).length with hl2 | hl2
        · have hg := goP_torn (k := { k with t := t, v := v, c := endK k }) (x := 2) hbe hz hl2
          have hgo : goP (zeroK c12) (s ++ (appB k t v b).take m) = some ({ k with t := t, v := v, c := endK k }, (entB (newE k t b)).take (m - (hardB t v (endK k)).length)) := by
            rw [hT, ← List.append_assoc, hsay]
            exact hg
          refine ⟨{ k with t := t, v := v, c := endK k }, cutOff (s ++ (appB k t v b).take m) ((entB (newE k t b)).take (m - (hardB t v (endK k)).length)), ?_, fun e => ?_, ?_, fun _ => Or.inr rfl⟩
          · rw [open_of hgo h.cf, hfix2, hfixA2, List.append_nil]
          · rw [List.length_append] at e; omega
          · unfold cutOff; split <;> simp
        · have hm2 : m = (appB k t v b).length := by rw [List.length_append]; rw [List.length_append] at hm; omega
          have := (h.app hn b h1 h2 h3 h4 h5).open
          refine ⟨appK k t v b, [], ?_, fun _ => ⟨rfl, rfl⟩, by simp, fun hh => by omega⟩
          rw [hm2, List.take_length]
          exact this
end Go.Proofs.Ytjlhlmnoomiblaa
