/-
  Writing results, into a writer. Writing tables: the wire's way. Writing tables: the document's way.
-/
import Derived.Test.YtidiodlemjeelaaTt
import Derived.Test.YtidiodlemjeelaaEc
import Derived.Test.YtidiodlemjeelaaTu
import Derived.Deep.CutBlock
namespace Go.Proofs.Ytidiodlemjeelaa
open Go.RowKit Wm Mm
set_option linter.unusedVariables false

def putKeys (l : List (List UInt8)) : List UInt8 := l.flatMap putText
theorem putKeys_snoc (l : List (List UInt8)) (x : List UInt8) : putKeys (l ++ [x]) = putKeys l ++ putText x := by simp [putKeys]
theorem putKeys_len (l : List (List UInt8)) (h : ∀ x ∈ l, x.length ≤ 16) : (putKeys l).length ≤ 25 * l.length := by
  induction l with
  | nil => simp [putKeys]
  | cons x l ih =>
    have h1 := putText_len x (by have := h x (List.mem_cons_self ..); omega)
    have h2 := ih (fun y hy => h y (List.mem_cons_of_mem _ hy))
    have h3 := h x (List.mem_cons_self ..)
    simp [putKeys] at *
    omega
def putRes (kind : Nat) (val : List UInt8) (ver : Nat) (keys : List (List UInt8)) : List UInt8 := putNum kind ++ (putText val ++ (putNum ver ++ (putNum keys.length ++ putKeys keys)))
theorem take_snoc' {α : Type} (l : List α) (k : Nat) (h : k < l.length) : l.take (k + 1) = l.take k ++ [l[k]] := by rw [List.take_succ_eq_append_getElem h]

set_option maxHeartbeats 2000000 in
theorem writer_result {w : World} {b : Nat} {xs : List UInt8} (kind : Nat) (val : List UInt8) (ver : Nat) (kv : Value) (keys : List (List UInt8)) (h1 : kind < 9223372036854775808) (h2 : val.length ≤ 64) (h3 : ver < 9223372036854775808) (h4 : keys.length ≤ 32) (h5 : ∀ x ∈ keys, x.length ≤ 16)
    (hx : xs.length ≤ 140737488330000) (hv : ∀ w', Below b w w' → Strs w' kv keys) (h : Wr w b xs) :
    Calls Try.prog 153 #[.pointer (some ⟨b, 0, none⟩), vRes kind val ver kv] w fun e w' =>
      e = .returned (.tuple #[]) ∧ Wr w' b (xs ++ putRes kind val ver keys) ∧ BK b w w' := by
  obtain ⟨ao, cap, rfl, _⟩ := (hv w (Below.refl _ _)).slice
  have hbw : b < w.heap.size := by obtain ⟨v, hb, _⟩ := h; exact lt_of_block hb
  have hl1 := putNum_len10 h1
  have hl2 := putText_len val (by omega)
  have hl3 := putNum_len10 h3
  have hl4 := putNum_len10 (n := keys.length) (by omega)
  have hT : (29 : TypeId) ≠ 5 := by decide
  obtain ⟨W, hW⟩ := hide (w.alloc (.cells #[.int .i64 kind, str val, .int .i64 ver, .slice ao keys.length cap] 29))
  have ha : Wr W b xs := by
    rw [← hW.out]
    obtain ⟨v, hb, ho⟩ := h
    exact ⟨v, (hp_past _ _ (by omega)).trans hb, ho.alloc _⟩
  have hba : BK b w W := by rw [← hW.out]; exact BK.alloc _ (by omega)
  have hc : W.heap[w.heap.size]? = some (.cells #[.int .i64 kind, str val, .int .i64 ver, .slice ao keys.length cap] 29 (0, 0)) := by rw [← hW.out]; exact hp_at _ _ rfl
  obtain ⟨p1, hp1⟩ := hide (xs ++ putNum kind)
  obtain ⟨p2, hp2⟩ := hide (p1 ++ putText val)
  obtain ⟨p3, hp3⟩ := hide (p2 ++ putNum ver)
  obtain ⟨p4, hp4⟩ := hide (p3 ++ putNum keys.length)
  have hq1 : p1.length ≤ xs.length + 9 := by rw [← hp1.out, List.length_append]; omega
  have hq2 : p2.length ≤ xs.length + 90 := by rw [← hp2.out, List.length_append]; omega
  have hq3 : p3.length ≤ xs.length + 100 := by rw [← hp3.out, List.length_append]; omega
  have hq4 : p4.length ≤ xs.length + 110 := by rw [← hp4.out, List.length_append]; omega
  have e4 : xs ++ putRes kind val ver keys = p4 ++ putKeys keys := by rw [← hp4.out, ← hp3.out, ← hp2.out, ← hp1.out, putRes]; simp only [List.append_assoc]
  rw [e4]
  have HT0 : Hid (∀ w1, Wr w1 b xs → Calls Try.prog 106 #[.pointer (some ⟨b, 0, none⟩), .int .i64 kind] w1 fun e w' => e = .returned (.tuple #[]) ∧ Wr w' b p1 ∧ BK b w1 w') := fun w1 hw => by
    rw [← hp1.out]; exact writer_number_k kind h1 (by omega) hw
  have HT1 : Hid (∀ w1, Wr w1 b p1 → Calls Try.prog 143 #[.pointer (some ⟨b, 0, none⟩), str val] w1 fun e w' => e = .returned (.tuple #[]) ∧ Wr w' b p2 ∧ BK b w1 w') := fun w1 hw => by
    rw [← hp2.out]; exact writer_text_k val (by omega) hw
  have HT2 : Hid (∀ w1, Wr w1 b p2 → Calls Try.prog 106 #[.pointer (some ⟨b, 0, none⟩), .int .i64 ver] w1 fun e w' => e = .returned (.tuple #[]) ∧ Wr w' b p3 ∧ BK b w1 w') := fun w1 hw => by
    rw [← hp3.out]; exact writer_number_k ver h3 (by omega) hw
  have HT3 : Hid (∀ w1, Wr w1 b p3 → Calls Try.prog 106 #[.pointer (some ⟨b, 0, none⟩), .int .i64 keys.length] w1 fun e w' => e = .returned (.tuple #[]) ∧ Wr w' b p4 ∧ BK b w1 w') := fun w1 hw => by
    rw [← hp4.out]; exact writer_number_k keys.length (by omega) (by omega) hw
  have HK : Hid (∀ k (hk : k < keys.length) w1, Wr w1 b (p4 ++ putKeys (keys.take k)) → Calls Try.prog 143 #[.pointer (some ⟨b, 0, none⟩), str keys[k]] w1 fun e w' => e = .returned (.tuple #[]) ∧ Wr w' b (p4 ++ putKeys (keys.take (k + 1))) ∧ BK b w1 w') := by
    show ∀ k (hk : k < keys.length) w1, _ → _
    intro k hk w1 hw
    have e1 : p4 ++ putKeys (keys.take (k + 1)) = p4 ++ putKeys (keys.take k) ++ putText keys[k] := by rw [take_snoc' keys k hk, putKeys_snoc, List.append_assoc]
    rw [e1]
    have g1 := putKeys_len (keys.take k) (fun x hx => h5 x (List.mem_of_mem_take hx))
    have g2 : (keys.take k).length ≤ 32 := by simp; omega
    have g3 := h5 keys[k] (List.getElem_mem _)
    exact writer_text_k keys[k] (by rw [List.length_append]; omega) hw
  have HV := Lib.hid hv
  have Hb0 := Lib.hid hba
  have Hw0 := Lib.hid ha
  have Hc0 := Lib.hid hc
  have Hbn : Hid (w.heap.size ≠ b) := by show _ ≠ _; omega
  clear h ha hba hc hx hl1 hl2 hl3 hl4 hq1 hq2 hq3 hq4 e4 hbw hv h1 h2 h3 h5
  obtain ⟨B, hB⟩ := hide w.heap.size
  rw [hB.out] at Hc0 Hbn
  have c0 := cell_n Hc0.out 0 (v := .int .i64 kind) rfl
  have c1 := cell_n Hc0.out 1 (v := str val) rfl
  have c2 := cell_n Hc0.out 2 (v := .int .i64 ver) rfl
  have c3 := cell_n Hc0.out 3 (v := .slice ao keys.length cap) rfl
  go_enter Try.func153, Try.ntmps153
  go_upto_region 1 with fail
  rw [hW.out, hB.out]
  go_wp2_with fail
  refine (HT0.out _ Hw0.out).mono ?_
  rintro e w1 ⟨rfl, hw1, hb1⟩
  have hc1 := hb1.2 _ _ _ Hbn.out hT Hc0.out
  clear c0 c1 c2 c3
  have c0 := cell_n hc1 0 (v := .int .i64 kind) rfl
  have c1 := cell_n hc1 1 (v := str val) rfl
  have c2 := cell_n hc1 2 (v := .int .i64 ver) rfl
  have c3 := cell_n hc1 3 (v := .slice ao keys.length cap) rfl
  have Hc1 := Lib.hid hc1
  have Hb1 := Lib.hid (Hb0.out.trans hb1)
  have Hw1 := Lib.hid hw1
  clear hc1 hb1 hw1
  go_wp2_with fail
  refine (HT1.out _ Hw1.out).mono ?_
  rintro e w2 ⟨rfl, hw1, hb1⟩
  have hc1 := hb1.2 _ _ _ Hbn.out hT Hc1.out
  clear c0 c1 c2 c3
  have c0 := cell_n hc1 0 (v := .int .i64 kind) rfl
  have c1 := cell_n hc1 1 (v := str val) rfl
  have c2 := cell_n hc1 2 (v := .int .i64 ver) rfl
  have c3 := cell_n hc1 3 (v := .slice ao keys.length cap) rfl
  have Hc2 := Lib.hid hc1
  have Hb2 := Lib.hid (Hb1.out.trans hb1)
  have Hw2 := Lib.hid hw1
  clear hc1 hb1 hw1
  go_wp2_with fail
  refine (HT2.out _ Hw2.out).mono ?_
  rintro e w3 ⟨rfl, hw1, hb1⟩
  have hc1 := hb1.2 _ _ _ Hbn.out hT Hc2.out
  clear c0 c1 c2 c3
  have c0 := cell_n hc1 0 (v := .int .i64 kind) rfl
  have c1 := cell_n hc1 1 (v := str val) rfl
  have c2 := cell_n hc1 2 (v := .int .i64 ver) rfl
  have c3 := cell_n hc1 3 (v := .slice ao keys.length cap) rfl
  have Hc3 := Lib.hid hc1
  have Hb3 := Lib.hid (Hb2.out.trans hb1)
  have Hw3 := Lib.hid hw1
  clear hc1 hb1 hw1
  go_wp2_with fail
  refine (HT3.out _ Hw3.out).mono ?_
  rintro e w4 ⟨rfl, hw1, hb1⟩
  have hc1 := hb1.2 _ _ _ Hbn.out hT Hc3.out
  clear c0 c1 c2 c3
  have c0 := cell_n hc1 0 (v := .int .i64 kind) rfl
  have c1 := cell_n hc1 1 (v := str val) rfl
  have c2 := cell_n hc1 2 (v := .int .i64 ver) rfl
  have c3 := cell_n hc1 3 (v := .slice ao keys.length cap) rfl
  have Hc4 := Lib.hid hc1
  have Hb4 := Lib.hid (Hb3.out.trans hb1)
  have Hw4 := Lib.hid hw1
  clear hc1 hb1 hw1
  go_wp2_with fail
  clear c0 c1 c2 c3
  go_loopw [26] (fun i wr => ∃ k : Nat, i = .int .i64 k ∧ k ≤ keys.length ∧ Hid (Wr wr b (p4 ++ putKeys (keys.take k))) ∧ Hid (BK b w wr)) (fun i _ => keys.length - (intOf i).toNat)
  case atStart => exact ⟨0, rfl, Nat.zero_le _, by show Wr _ _ _; simpa [putKeys] using Hw4.out, Hb4.out⟩
  case round =>
    obtain ⟨k, rfl, hk, hw, hb⟩ := hrel
    by_cases hlt : k < keys.length
    · obtain ⟨bb, off, rfl, ck⟩ := (HV.out _ hb.out.1).at hlt
      have HN := Lib.hid (HK.out k hlt _ hw.out)
      obtain ⟨x, hX⟩ := hide keys[k]
      rw [hX.out] at ck HN
      go_wp2_with fail
      refine HN.out.mono ?_
      rintro e w9 ⟨rfl, hw9, hb9⟩
      have Hw9 := Lib.hid hw9
      have Hb9 := Lib.hid (hb.out.trans hb9)
      clear hw9 hb9 HN ck
      go_wp2_with fail
      go_roundw
      case rel => exact ⟨k + 1, by go_num, hlt, Hw9, Hb9⟩
      case measure => simp [intOf]; omega
    · have hkn : k = keys.length := by omega
      have hfin := hw.out
      rw [hkn, List.take_length] at hfin
      have Hf := Lib.hid hfin
      clear hkn hfin
      go_wp2_with fail
      go_end0
      exact ⟨rfl, Hf.out, hb.out⟩
end Go.Proofs.Ytidiodlemjeelaa

namespace Go.Proofs.Ytidiodlemjeelaa
open Go.RowKit Wm Mm
set_option linter.unusedVariables false

theorem writer_int {w : World} {b : Nat} {xs : List UInt8} (n : Int) (h0 : 0 ≤ n) (h1 : n ≤ 1099511627775) (hx : xs.length ≤ 140737488355300) (h : Wr w b xs) :
    Calls Try.prog 106 #[.pointer (some ⟨b, 0, none⟩), .int .i64 n] w fun e w' => e = .returned (.tuple #[]) ∧ Wr w' b (xs ++ putNum n.toNat) ∧ BK b w w' := by
  obtain ⟨m, rfl⟩ := Int.eq_ofNat_of_zero_le h0
  exact writer_number_k m (by omega) hx h
def pairOk (p : PairP) : Prop := p.key.length ≤ 16 ∧ p.val.length ≤ 64 ∧ 1 ≤ p.ver ∧ p.ver ≤ 1099511627775
def resOk (kind : Int) (val : List UInt8) (ver : Int) (keys : List (List UInt8)) : Prop := 0 ≤ kind ∧ kind ≤ 8 ∧ val.length ≤ 64 ∧ 0 ≤ ver ∧ ver ≤ 1099511627775 ∧ keys.length ≤ 32 ∧ ∀ x ∈ keys, x.length ≤ 16
def sessOk (s : SessP) : Prop := 1 ≤ s.client ∧ s.client ≤ 1099511627775 ∧ 0 ≤ s.last ∧ s.last ≤ 1099511627775 ∧ 0 ≤ s.seen ∧ s.seen ≤ 1099511627775 ∧ resOk s.kind s.val s.ver s.keys
theorem res_facts {kind : Int} {val : List UInt8} {ver : Int} {keys : List (List UInt8)} (h : resB kind val ver keys = true) : resOk kind val ver keys := by
  simp only [resB, Bool.and_eq_true, decide_eq_true_eq] at h
  obtain ⟨h1, h2, h3, h4, h5⟩ := h
  have g2 := inB_of h2
  have g4 := inB_of h4
  refine ⟨g2.1, g2.2, h3, g4.1, g4.2, h5, fun x hx => ?_⟩
  obtain ⟨i, hi, rfl⟩ := List.getElem_of_mem hx
  rw [keysB, List.all_eq_true] at h1
  have := h1 i (List.mem_range.2 hi)
  rw [List.getElem?_eq_getElem hi] at this
  simp only [okKey, Bool.and_eq_true, decide_eq_true_eq] at this
  exact this.1
theorem tab_facts {t : Tab} (h : tabB t = true) : t.pairs.length ≤ 32 ∧ (∀ p ∈ t.pairs, pairOk p) ∧ t.sess.length ≤ 8 ∧ (∀ s ∈ t.sess, sessOk s) ∧ 0 ≤ t.time ∧ t.time ≤ 1099511627775 := by
  simp only [tabB, pairsB, Bool.and_eq_true, decide_eq_true_eq] at h
  obtain ⟨⟨hp, hpl⟩, hsl, ht, hs⟩ := h
  have gt := inB_of ht
  refine ⟨hpl, fun p hp' => ?_, hsl, fun s hs' => ?_, gt.1, gt.2⟩
  · obtain ⟨i, hi, rfl⟩ := List.getElem_of_mem hp'
    rw [List.all_eq_true] at hp
    have := hp i (List.mem_range.2 hi)
    rw [List.getElem?_eq_getElem hi] at this
    simp only [okPair, Bool.and_eq_true, decide_eq_true_eq] at this
    have g := inB_of this.2.2.2.1
    exact ⟨this.2.1, this.2.2.1, g.1, g.2⟩
  · obtain ⟨i, hi, rfl⟩ := List.getElem_of_mem hs'
    rw [sessB, List.all_eq_true] at hs
    have := hs i (List.mem_range.2 hi)
    rw [List.getElem?_eq_getElem hi] at this
    simp only [okSess, Bool.and_eq_true] at this
    obtain ⟨a1, _, a2, a3, a4⟩ := this
    have g1 := inB_of a1
    have g2 := inB_of a2
    have g3 := inB_of a3
    exact ⟨g1.1, g1.2, g2.1, g2.2, g3.1, by omega, res_facts a4⟩
def putPair (p : PairP) : List UInt8 := putText p.key ++ (putText p.val ++ putNum p.ver.toNat)
def putPairs (l : List PairP) : List UInt8 := l.flatMap putPair
def putSess (s : SessP) : List UInt8 := putNum s.client.toNat ++ (putNum s.last.toNat ++ (putNum s.seen.toNat ++ putRes s.kind.toNat s.val s.ver.toNat s.keys))
def putSs (l : List SessP) : List UInt8 := l.flatMap putSess
def putTab (t : Tab) : List UInt8 := putNum t.time.toNat ++ (putNum t.pairs.length ++ (putPairs t.pairs ++ (putNum t.sess.length ++ putSs t.sess)))
def putTabB (t : Tab) : List UInt8 := if tabB t = true then putTab t else []
def putTabE (t : Tab) : Int := if tabB t = true then 0 else 6
theorem putPairs_snoc (l : List PairP) (x : PairP) : putPairs (l ++ [x]) = putPairs l ++ putPair x := by simp [putPairs]
theorem putSs_snoc (l : List SessP) (x : SessP) : putSs (l ++ [x]) = putSs l ++ putSess x := by simp [putSs]
theorem putPair_len {p : PairP} (h : pairOk p) : (putPair p).length ≤ 107 := by
  obtain ⟨h1, h2, h3, h4⟩ := h
  have g1 := putText_len p.key (by omega)
  have g2 := putText_len p.val (by omega)
  have g3 := putNum_len10 (n := p.ver.toNat) (by omega)
  simp [putPair]; omega
theorem putPairs_len (l : List PairP) (h : ∀ p ∈ l, pairOk p) : (putPairs l).length ≤ 107 * l.length := by
  induction l with
  | nil => simp [putPairs]
  | cons x l ih =>
    have h1 := putPair_len (h x (List.mem_cons_self ..))
    have h2 := ih (fun y hy => h y (List.mem_cons_of_mem _ hy))
    simp [putPairs] at *
    omega
theorem putRes_len {kind : Int} {val : List UInt8} {ver : Int} {keys : List (List UInt8)} (h : resOk kind val ver keys) : (putRes kind.toNat val ver.toNat keys).length ≤ 1000 := by
  obtain ⟨h1, h2, h3, h4, h5, h6, h7⟩ := h
  have g1 := putNum_len10 (n := kind.toNat) (by omega)
  have g2 := putText_len val (by omega)
  have g3 := putNum_len10 (n := ver.toNat) (by omega)
  have g4 := putNum_len10 (n := keys.length) (by omega)
  have g5 := putKeys_len keys h7
  simp [putRes]; omega
theorem putSess_len {s : SessP} (h : sessOk s) : (putSess s).length ≤ 1027 := by
  obtain ⟨h1, h2, h3, h4, h5, h6, h7⟩ := h
  have g1 := putNum_len10 (n := s.client.toNat) (by omega)
  have g2 := putNum_len10 (n := s.last.toNat) (by omega)
  have g3 := putNum_len10 (n := s.seen.toNat) (by omega)
  have g4 := putRes_len h7
  simp [putSess]; omega
theorem putSs_len (l : List SessP) (h : ∀ p ∈ l, sessOk p) : (putSs l).length ≤ 1027 * l.length := by
  induction l with
  | nil => simp [putSs]
  | cons x l ih =>
    have h1 := putSess_len (h x (List.mem_cons_self ..))
    have h2 := ih (fun y hy => h y (List.mem_cons_of_mem _ hy))
    simp [putSs] at *
    omega
theorem putTab_len {t : Tab} (h : tabB t = true) : (putTab t).length ≤ 12000 := by
  obtain ⟨h1, h2, h3, h4, h5, h6⟩ := tab_facts h
  have g1 := putNum_len10 (n := t.time.toNat) (by omega)
  have g2 := putNum_len10 (n := t.pairs.length) (by omega)
  have g3 := putPairs_len t.pairs h2
  have g4 := putNum_len10 (n := t.sess.length) (by omega)
  have g5 := putSs_len t.sess h4
  simp [putTab]; omega

set_option maxHeartbeats 4000000 in
set_option maxRecDepth 100000 in
theorem wire_putTable (vp vs : Value) (t : Tab) (w : World) (ht : Table2 w vp vs t) :
    Calls Try.prog 40 #[.agg #[vp, vs, .int .i64 t.time]] w fun e w' =>
      e = .returned (.tuple #[str (putTabB t), .int .i64 (putTabE t)]) ∧ Below w.heap.size w w' := by
  have hwv : Hid (∀ w1, Below w.heap.size w w1 → Calls Try.prog 93 #[.agg #[vp, vs, .int .i64 t.time]] w1 fun e w' => e = .returned (.bool (tabB t)) ∧ Below w1.heap.size w1 w') := fun w1 h => wire_isTable vp vs t w1 (ht.mono h)
  obtain ⟨po, pcap, rfl, _⟩ := ht.p.slice
  obtain ⟨so, scap, rfl, _⟩ := ht.s.slice
  obtain ⟨W1, hW1⟩ := hide (w.alloc (.cells #[.slice po t.pairs.length pcap, .slice so t.sess.length scap, .int .i64 t.time] 25))
  have hc0 : W1.heap[w.heap.size]? = some (.cells #[.slice po t.pairs.length pcap, .slice so t.sess.length scap, .int .i64 t.time] 25 (0, 0)) := by rw [← hW1.out]; exact hp_at _ _ rfl
  have hb1 : Below w.heap.size w W1 := by rw [← hW1.out]; exact (Below.refl _ _).alloc (Nat.le_refl _) _
  have Hx : Hid (∀ w', Below W1.heap.size W1 w' → w'.heap[w.heap.size]? = some (.cells #[.slice po t.pairs.length pcap, .slice so t.sess.length scap, .int .i64 t.time] 25 (0, 0)) ∧ Below w.heap.size w w') := fun w' h => ⟨(h.block _ (lt_of_block hc0)).trans hc0, hb1.trans (h.mono hb1.size)⟩
  have HT := Lib.hid ht
  obtain ⟨B, hB⟩ := hide w.heap.size
  have Hws : Hid (B < W1.heap.size) := by rw [← hB.out]; exact lt_of_block hc0
  rw [hB.out] at Hx hwv
  have H0 := Lib.hid (Below.refl W1.heap.size W1)
  clear ht hc0 hb1
  have b0 := cell_n ((Hx.out _ H0.out).1) 0 (v := .slice po t.pairs.length pcap) rfl
  have b1 := cell_n ((Hx.out _ H0.out).1) 1 (v := .slice so t.sess.length scap) rfl
  have b2 := cell_n ((Hx.out _ H0.out).1) 2 (v := .int .i64 t.time) rfl
  obtain ⟨rb, hrb⟩ := hide (putTabB t)
  obtain ⟨re, hre⟩ := hide (putTabE t)
  rw [hrb.out, hre.out]
  go_enter Try.func40, Try.ntmps40
  go_upto_region 1 with fail
  rw [hW1.out, hB.out]
  go_wp2_with fail
  refine (hwv.out _ (Hx.out _ H0.out).2).mono ?_
  rintro e w2 ⟨rfl, hb2⟩
  have H2 := Lib.hid (H0.out.trans (hb2.mono H0.out.size))
  clear b0 b1 b2 hb2
  cases hok : tabB t with
  | false =>
    obtain rfl : [] = rb := by rw [← hrb.out, putTabB, if_neg (by simp [hok])]
    obtain rfl : 6 = re := by rw [← hre.out, putTabE, if_neg (by simp [hok])]
    clear hok
    have Hf := Lib.hid (Hx.out _ H2.out).2
    go_wp2_with fail
    go_ret2
    exact ⟨rfl, by rw [hB.out]; exact Hf.out⟩
  | true =>
  obtain rfl : putTab t = rb := by rw [← hrb.out, putTabB, if_pos hok]
  obtain rfl : 0 = re := by rw [← hre.out, putTabE, if_pos hok]
  have hfin := putTab_len hok
  obtain ⟨f1, f2, f3, f4, f5, f6⟩ := tab_facts hok
  have g1 := putNum_len10 (n := t.time.toNat) (by omega)
  have g2 := putNum_len10 (n := t.pairs.length) (by omega)
  have g3 := putPairs_len t.pairs f2
  have g4 := putNum_len10 (n := t.sess.length) (by omega)
  obtain ⟨p1, hp1⟩ := hide (putNum t.time.toNat)
  obtain ⟨p2, hp2⟩ := hide (p1 ++ putNum t.pairs.length)
  obtain ⟨p3, hp3⟩ := hide (p2 ++ putPairs t.pairs)
  obtain ⟨p4, hp4⟩ := hide (p3 ++ putNum t.sess.length)
  have hq1 : p1.length ≤ 9 := by rw [← hp1.out]; omega
  have hq2 : p2.length ≤ 18 := by rw [← hp2.out, List.length_append]; omega
  have hq3 : p3.length ≤ 3500 := by rw [← hp3.out, List.length_append]; omega
  have hq4 : p4.length ≤ 3600 := by rw [← hp4.out, List.length_append]; omega
  have e4 : putTab t = p4 ++ putSs t.sess := by rw [← hp4.out, ← hp3.out, ← hp2.out, ← hp1.out, putTab]; simp only [List.append_assoc]
  have E4 := Lib.hid e4
  have HT0 : Hid (∀ bb w1, Wr w1 bb [] → Calls Try.prog 106 #[.pointer (some ⟨bb, 0, none⟩), .int .i64 t.time] w1 fun e w' => e = .returned (.tuple #[]) ∧ Wr w' bb p1 ∧ BK bb w1 w') := fun bb w1 hw => by
    have := writer_int t.time f5 f6 (by simp) hw
    rw [List.nil_append, hp1.out] at this; exact this
  have HT1 : Hid (∀ bb w1, Wr w1 bb p1 → Calls Try.prog 106 #[.pointer (some ⟨bb, 0, none⟩), .int .i64 t.pairs.length] w1 fun e w' => e = .returned (.tuple #[]) ∧ Wr w' bb p2 ∧ BK bb w1 w') := fun bb w1 hw => by
    rw [← hp2.out]; exact writer_number_k t.pairs.length (by omega) (by omega) hw
  have HT2 : Hid (∀ bb w1, Wr w1 bb p3 → Calls Try.prog 106 #[.pointer (some ⟨bb, 0, none⟩), .int .i64 t.sess.length] w1 fun e w' => e = .returned (.tuple #[]) ∧ Wr w' bb p4 ∧ BK bb w1 w') := fun bb w1 hw => by
    rw [← hp4.out]; exact writer_number_k t.sess.length (by omega) (by omega) hw
  have HF2 := Lib.hid f2
  have HF4 := Lib.hid f4
  have HQ2 := Lib.hid hq2
  have HQ4 := Lib.hid hq4
  have HF3 := Lib.hid f3
  have HF1 := Lib.hid f1
  clear hok hfin f1 f2 f3 f4 f5 f6 g1 g2 g3 g4 hq1 hq2 hq3 hq4 e4
  obtain ⟨W3, hW3⟩ := hide (w2.alloc (.cells #[.slice none 0 0] 153))
  have hb3 : Below W1.heap.size W1 W3 := by rw [← hW3.out]; exact H2.out.alloc H2.out.size _
  have hw3 : Wr W3 w2.heap.size [] := by rw [← hW3.out]; exact ⟨_, hp_at _ _ rfl, World.ownsRow_nil _ _ _ _⟩
  have Hlt : Hid (W1.heap.size ≤ w2.heap.size) := H2.out.size
  have Hb3 := Lib.hid hb3
  have Hw3 := Lib.hid hw3
  clear hb3 hw3
  have b0 := cell_n ((Hx.out _ Hb3.out).1) 0 (v := .slice po t.pairs.length pcap) rfl
  have b1 := cell_n ((Hx.out _ Hb3.out).1) 1 (v := .slice so t.sess.length scap) rfl
  have b2 := cell_n ((Hx.out _ Hb3.out).1) 2 (v := .int .i64 t.time) rfl
  go_upto_region 4 with fail
  rw [hW3.out]
  obtain ⟨M, hM⟩ := hide w2.heap.size
  rw [hM.out] at Hw3 Hlt ⊢
  have Hy : Hid (∀ w', BK M W3 w' → w'.heap[B]? = some (.cells #[.slice po t.pairs.length pcap, .slice so t.sess.length scap, .int .i64 t.time] 25 (0, 0)) ∧ Below B w w' ∧ Table2 w' (.slice po t.pairs.length pcap) (.slice so t.sess.length scap) t) := by
    show ∀ w', _ → _
    intro w' h
    have h1 := Hb3.out.trans (h.1.mono Hlt.out)
    have h2 := Hx.out _ h1
    exact ⟨h2.1, h2.2, HT.out.mono (by rw [hB.out]; exact h2.2)⟩
  go_wp2_with fail
  refine (HT0.out _ _ Hw3.out).mono ?_
  rintro e w4 ⟨rfl, hw4, hk4⟩
  have Hw4 := Lib.hid hw4
  have Hk4 := Lib.hid hk4
  clear b0 b1 b2 hw4 hk4
  have b0 := cell_n ((Hy.out _ Hk4.out).1) 0 (v := .slice po t.pairs.length pcap) rfl
  have b1 := cell_n ((Hy.out _ Hk4.out).1) 1 (v := .slice so t.sess.length scap) rfl
  have b2 := cell_n ((Hy.out _ Hk4.out).1) 2 (v := .int .i64 t.time) rfl
  go_wp2_with fail
  refine (HT1.out _ _ Hw4.out).mono ?_
  rintro e w5 ⟨rfl, hw5, hk5⟩
  have Hw5 := Lib.hid hw5
  have Hk5 := Lib.hid (Hk4.out.trans hk5)
  clear b0 b1 b2 hw5 hk5
  have b0 := cell_n ((Hy.out _ Hk5.out).1) 0 (v := .slice po t.pairs.length pcap) rfl
  have b1 := cell_n ((Hy.out _ Hk5.out).1) 1 (v := .slice so t.sess.length scap) rfl
  have b2 := cell_n ((Hy.out _ Hk5.out).1) 2 (v := .int .i64 t.time) rfl
  go_wp2_with fail
  clear b0 b1 b2
  go_loopw [26] (fun i wr => ∃ k : Nat, i = .int .i64 k ∧ k ≤ t.pairs.length ∧ Hid (Wr wr M (p2 ++ putPairs (t.pairs.take k))) ∧ Hid (BK M W3 wr)) (fun i _ => t.pairs.length - (intOf i).toNat)
  case atStart => exact ⟨0, rfl, Nat.zero_le _, by show Wr _ _ _; simpa [putPairs] using Hw5.out, Hk5.out⟩
  case round =>
    obtain ⟨k, rfl, hk, hw, hkb⟩ := hrel
    by_cases hlt : k < t.pairs.length
    · obtain ⟨bb, off, rfl, c0, c1, c2⟩ := (Hy.out _ hkb.out).2.2.p.at hlt
      have hpo := HF2.out _ (List.getElem_mem hlt)
      have hlen : (p2 ++ putPairs (t.pairs.take k)).length ≤ 3500 := by
        have g := putPairs_len (t.pairs.take k) (fun x hx => HF2.out x (List.mem_of_mem_take hx))
        have g' : (t.pairs.take k).length ≤ 32 := by have := HF1.out; simp; omega
        have := HQ2.out
        rw [List.length_append]; omega
      have hsn : p2 ++ putPairs (t.pairs.take (k + 1)) = p2 ++ putPairs (t.pairs.take k) ++ putText t.pairs[k].key ++ putText t.pairs[k].val ++ putNum t.pairs[k].ver.toNat := by
        rw [take_snoc' t.pairs k hlt, putPairs_snoc, putPair]; simp only [List.append_assoc]
      obtain ⟨P, hP⟩ := hide t.pairs[k]
      rw [hP.out] at c0 c1 c2 hpo hsn
      obtain ⟨key, val, ver⟩ := P
      simp only [] at c0 c1 c2 hsn
      obtain ⟨h16, h64, hv1, hv2⟩ := hpo
      simp only [] at h16 h64 hv1 hv2
      obtain ⟨q0, hq0⟩ := hide (p2 ++ putPairs (t.pairs.take k))
      rw [hq0.out] at hsn hlen hw
      obtain ⟨q1, hq1⟩ := hide (q0 ++ putText key)
      obtain ⟨q2, hq2⟩ := hide (q1 ++ putText val)
      rw [hq1.out, hq2.out] at hsn
      have hl1 := putText_len key (by omega)
      have hl2 := putText_len val (by omega)
      have hle1 : q1.length ≤ 3600 := by rw [← hq1.out, List.length_append]; omega
      have hle2 : q2.length ≤ 3700 := by rw [← hq2.out, List.length_append]; omega
      have HA1 : Hid (∀ w1, Wr w1 M q0 → Calls Try.prog 143 #[.pointer (some ⟨M, 0, none⟩), str key] w1 fun e w' => e = .returned (.tuple #[]) ∧ Wr w' M q1 ∧ BK M w1 w') := fun w1 hw => by rw [← hq1.out]; exact writer_text_k key (by omega) hw
      have HA2 : Hid (∀ w1, Wr w1 M q1 → Calls Try.prog 143 #[.pointer (some ⟨M, 0, none⟩), str val] w1 fun e w' => e = .returned (.tuple #[]) ∧ Wr w' M q2 ∧ BK M w1 w') := fun w1 hw => by rw [← hq2.out]; exact writer_text_k val (by omega) hw
      have HA3 : Hid (∀ w1, Wr w1 M q2 → Calls Try.prog 106 #[.pointer (some ⟨M, 0, none⟩), .int .i64 ver] w1 fun e w' => e = .returned (.tuple #[]) ∧ Wr w' M (p2 ++ putPairs (t.pairs.take (k + 1))) ∧ BK M w1 w') := fun w1 hw => by rw [hsn]; exact writer_int ver (by omega) hv2 (by omega) hw
      have hMw : M < wr.heap.size := by obtain ⟨v, hb, _⟩ := hw.out; exact lt_of_block hb
      obtain ⟨U, hU⟩ := hide (wr.alloc (.cells #[str key, str val, .int .i64 ver] 48))
      have hwU : Wr U M q0 := by
        rw [← hU.out]
        obtain ⟨v, hb, ho⟩ := hw.out
        exact ⟨v, (hp_past _ _ (by omega)).trans hb, ho.alloc _⟩
      have hkU : BK M W3 U := by rw [← hU.out]; exact hkb.out.trans (BK.alloc _ (by omega))
      have hcU : U.heap[wr.heap.size]? = some (.cells #[str key, str val, .int .i64 ver] 48 (0, 0)) := by rw [← hU.out]; exact hp_at _ _ rfl
      have HwU := Lib.hid hwU
      have HkU := Lib.hid hkU
      have HcU := Lib.hid hcU
      have Hne : Hid (wr.heap.size ≠ M) := by show _ ≠ _; omega
      have hT : (48 : TypeId) ≠ 5 := by decide
      clear hwU hkU hcU hsn hlen h16 h64 hv1 hv2 hl1 hl2 hle1 hle2 hMw
      go_upto_region 9 with fail
      rw [hU.out]
      obtain ⟨Q, hQ⟩ := hide wr.heap.size
      rw [hQ.out] at HcU Hne ⊢
      clear c0 c1 c2
      have d0 := cell_n HcU.out 0 (v := str key) rfl
      go_wp2_with fail
      refine (HA1.out _ HwU.out).mono ?_
      rintro e w6 ⟨rfl, hw6, hk6⟩
      have hc6 := hk6.2 _ _ _ Hne.out hT HcU.out
      have Hw6 := Lib.hid hw6
      have Hk6 := Lib.hid (HkU.out.trans hk6)
      have Hc6 := Lib.hid hc6
      clear d0 hw6 hk6
      have d0 := cell_n hc6 1 (v := str val) rfl
      clear hc6
      go_wp2_with fail
      refine (HA2.out _ Hw6.out).mono ?_
      rintro e w7 ⟨rfl, hw7, hk7⟩
      have hc7 := hk7.2 _ _ _ Hne.out hT Hc6.out
      have Hw7 := Lib.hid hw7
      have Hk7 := Lib.hid (Hk6.out.trans hk7)
      clear d0 hw7 hk7
      have d0 := cell_n hc7 2 (v := .int .i64 ver) rfl
      clear hc7
      go_wp2_with fail
      refine (HA3.out _ Hw7.out).mono ?_
      rintro e w8 ⟨rfl, hw8, hk8⟩
      have Hw8 := Lib.hid hw8
      have Hk8 := Lib.hid (Hk7.out.trans hk8)
      clear d0 hw8 hk8
      go_wp2_with fail
      go_roundw
      case rel => exact ⟨k + 1, by go_num, hlt, Hw8, Hk8⟩
      case measure => simp [intOf]; omega
    · have hkn : k = t.pairs.length := by omega
      have hfin := hw.out
      rw [hkn, List.take_length, hp3.out] at hfin
      have Hw6 := Lib.hid hfin
      clear hkn hfin
      have b0 := cell_n ((Hy.out _ hkb.out).1) 0 (v := .slice po t.pairs.length pcap) rfl
      have b1 := cell_n ((Hy.out _ hkb.out).1) 1 (v := .slice so t.sess.length scap) rfl
      have b2 := cell_n ((Hy.out _ hkb.out).1) 2 (v := .int .i64 t.time) rfl
      go_wp2_with fail
      refine (HT2.out _ _ Hw6.out).mono ?_
      rintro e w6 ⟨rfl, hw7, hk7⟩
      have Hw7 := Lib.hid hw7
      have Hk7 := Lib.hid (hkb.out.trans hk7)
      clear b0 b1 b2 hw7 hk7
      have b0 := cell_n ((Hy.out _ Hk7.out).1) 0 (v := .slice po t.pairs.length pcap) rfl
      have b1 := cell_n ((Hy.out _ Hk7.out).1) 1 (v := .slice so t.sess.length scap) rfl
      have b2 := cell_n ((Hy.out _ Hk7.out).1) 2 (v := .int .i64 t.time) rfl
      go_wp2_with fail
      clear b0 b1 b2
      go_loopw [51] (fun i wr => ∃ k : Nat, i = .int .i64 k ∧ k ≤ t.sess.length ∧ Hid (Wr wr M (p4 ++ putSs (t.sess.take k))) ∧ Hid (BK M W3 wr)) (fun i _ => t.sess.length - (intOf i).toNat)
      case atStart => exact ⟨0, rfl, Nat.zero_le _, by show Wr _ _ _; simpa [putSs] using Hw7.out, Hk7.out⟩
      case round =>
        obtain ⟨k, rfl, hk, hw, hkb⟩ := hrel
        by_cases hlt : k < t.sess.length
        · obtain ⟨bb, off, kv, rfl, hks, hcs⟩ := HT.out.s.at hlt
          have hbw : Below w.heap.size w wr := by rw [hB.out]; exact (Hy.out _ hkb.out).2.1
          have hpo := HF4.out _ (List.getElem_mem hlt)
          have hlen : (p4 ++ putSs (t.sess.take k)).length ≤ 12000 := by
            have g := putSs_len (t.sess.take k) (fun x hx => HF4.out x (List.mem_of_mem_take hx))
            have g' : (t.sess.take k).length ≤ 8 := by have := HF3.out; simp; omega
            have := HQ4.out
            rw [List.length_append]; omega
          have hsn : p4 ++ putSs (t.sess.take (k + 1)) = p4 ++ putSs (t.sess.take k) ++ putNum t.sess[k].client.toNat ++ putNum t.sess[k].last.toNat ++ putNum t.sess[k].seen.toNat ++ putRes t.sess[k].kind.toNat t.sess[k].val t.sess[k].ver.toNat t.sess[k].keys := by
            rw [take_snoc' t.sess k hlt, putSs_snoc, putSess]; simp only [List.append_assoc]
          obtain ⟨P, hP⟩ := hide t.sess[k]
          rw [hP.out] at hks hcs hpo hsn
          obtain ⟨client, last, kind, val, ver, keys, seen⟩ := P
          simp only [] at hks hcs hsn
          obtain ⟨hc1, hc2, hl1, hl2, hs1, hs2, hro⟩ := hpo
          simp only [] at hc1 hc2 hl1 hl2 hs1 hs2 hro
          obtain ⟨ko, kcap, rfl, _⟩ := hks.slice
          have hcc : ∀ i u, (rowSess ⟨client, last, kind, val, ver, keys, seen⟩ (.slice ko keys.length kcap))[i]? = some u → wr.cell? ⟨bb, off + k * 7 + i, none⟩ = some u := fun i u hu => (hbw.cell (p := ⟨bb, off + k * 7 + i, none⟩) (World.block_lt_of_cell? _ _ (hcs i u hu))).trans (hcs i u hu)
          have c0 := hcc 0 (.int .i64 client) rfl
          have c1 := hcc 1 (.int .i64 last) rfl
          have c2 := hcc 2 (.int .i64 kind) rfl
          have c3 := hcc 3 (str val) rfl
          have c4 := hcc 4 (.int .i64 ver) rfl
          have c5 := hcc 5 (.slice ko keys.length kcap) rfl
          have c6 := hcc 6 (.int .i64 seen) rfl
          rw [Nat.add_zero] at c0
          have Hks : Hid (∀ w1, BK M W3 w1 → ∀ w', Below M w1 w' → Strs w' (.slice ko keys.length kcap) keys) := by
            show ∀ w1, _ → ∀ w', _ → _
            intro w1 h1 w' h2
            refine hks.mono ?_
            rw [hB.out]
            exact (Hy.out _ h1).2.1.trans (h2.mono (by have := Hws.out; have := Hlt.out; omega))
          obtain ⟨q0, hq0⟩ := hide (p4 ++ putSs (t.sess.take k))
          rw [hq0.out] at hsn hlen hw
          have hn1 := putNum_len10 (n := client.toNat) (by omega)
          have hn2 := putNum_len10 (n := last.toNat) (by omega)
          have hn3 := putNum_len10 (n := seen.toNat) (by omega)
          obtain ⟨q1, hq1⟩ := hide (q0 ++ putNum client.toNat)
          obtain ⟨q2, hq2⟩ := hide (q1 ++ putNum last.toNat)
          obtain ⟨q3, hq3⟩ := hide (q2 ++ putNum seen.toNat)
          rw [hq1.out, hq2.out, hq3.out] at hsn
          have hle1 : q1.length ≤ 12100 := by rw [← hq1.out, List.length_append]; omega
          have hle2 : q2.length ≤ 12200 := by rw [← hq2.out, List.length_append]; omega
          have hle3 : q3.length ≤ 12300 := by rw [← hq3.out, List.length_append]; omega
          have HA1 : Hid (∀ w1, BK M W3 w1 → Wr w1 M q0 → Calls Try.prog 106 #[.pointer (some ⟨M, 0, none⟩), .int .i64 client] w1 fun e w' => e = .returned (.tuple #[]) ∧ Wr w' M q1 ∧ BK M w1 w') := fun w1 _ hw => by rw [← hq1.out]; exact writer_int client (by omega) hc2 (by omega) hw
          have HA2 : Hid (∀ w1, BK M W3 w1 → Wr w1 M q1 → Calls Try.prog 106 #[.pointer (some ⟨M, 0, none⟩), .int .i64 last] w1 fun e w' => e = .returned (.tuple #[]) ∧ Wr w' M q2 ∧ BK M w1 w') := fun w1 _ hw => by rw [← hq2.out]; exact writer_int last hl1 hl2 (by omega) hw
          have HA3 : Hid (∀ w1, BK M W3 w1 → Wr w1 M q2 → Calls Try.prog 106 #[.pointer (some ⟨M, 0, none⟩), .int .i64 seen] w1 fun e w' => e = .returned (.tuple #[]) ∧ Wr w' M q3 ∧ BK M w1 w') := fun w1 _ hw => by rw [← hq3.out]; exact writer_int seen hs1 hs2 (by omega) hw
          have HA4 : Hid (∀ w1, BK M W3 w1 → Wr w1 M q3 → Calls Try.prog 153 #[.pointer (some ⟨M, 0, none⟩), vRes kind val ver (.slice ko keys.length kcap)] w1 fun e w' => e = .returned (.tuple #[]) ∧ Wr w' M (p4 ++ putSs (t.sess.take (k + 1))) ∧ BK M w1 w') := fun w1 hk hw => by
            rw [hsn]
            obtain ⟨r1, r2, r3, r4, r5, r6, r7⟩ := hro
            obtain ⟨kn, rfl⟩ := Int.eq_ofNat_of_zero_le r1
            obtain ⟨vn, rfl⟩ := Int.eq_ofNat_of_zero_le r4
            exact writer_result kn val vn _ keys (by omega) r3 (by omega) r6 r7 (by omega) (Hks.out w1 hk) hw
          have hMw : M < wr.heap.size := by obtain ⟨v, hb, _⟩ := hw.out; exact lt_of_block hb
          obtain ⟨U, hU⟩ := hide (wr.alloc (.cells #[.int .i64 client, .int .i64 last, .int .i64 kind, str val, .int .i64 ver, .slice ko keys.length kcap, .int .i64 seen] 136))
          have hwU : Wr U M q0 := by
            rw [← hU.out]
            obtain ⟨v, hb, ho⟩ := hw.out
            exact ⟨v, (hp_past _ _ (by omega)).trans hb, ho.alloc _⟩
          have hkU : BK M W3 U := by rw [← hU.out]; exact hkb.out.trans (BK.alloc _ (by omega))
          have hcU : U.heap[wr.heap.size]? = some (.cells #[.int .i64 client, .int .i64 last, .int .i64 kind, str val, .int .i64 ver, .slice ko keys.length kcap, .int .i64 seen] 136 (0, 0)) := by rw [← hU.out]; exact hp_at _ _ rfl
          have Hw10 := Lib.hid hwU
          have Hk10 := Lib.hid hkU
          have Hc10 := Lib.hid hcU
          have Hne : Hid (wr.heap.size ≠ M) := by show _ ≠ _; omega
          have hT : (136 : TypeId) ≠ 5 := by decide
          clear hwU hkU hcU hsn hlen hc1 hc2 hl1 hl2 hs1 hs2 hro hn1 hn2 hn3 hle1 hle2 hle3 hMw hks hcs hcc hbw
          go_upto_region 17 with fail
          rw [hU.out]
          obtain ⟨Q, hQ⟩ := hide wr.heap.size
          rw [hQ.out] at Hc10 Hne ⊢
          clear c0 c1 c2 c3 c4 c5 c6
          have d0 := cell_n Hc10.out 0 (v := .int .i64 client) rfl
          have d1 := cell_n Hc10.out 1 (v := .int .i64 last) rfl
          have d2 := cell_n Hc10.out 2 (v := .int .i64 kind) rfl
          have d3 := cell_n Hc10.out 3 (v := str val) rfl
          have d4 := cell_n Hc10.out 4 (v := .int .i64 ver) rfl
          have d5 := cell_n Hc10.out 5 (v := .slice ko keys.length kcap) rfl
          have d6 := cell_n Hc10.out 6 (v := .int .i64 seen) rfl
          go_wp2_with fail
          refine (HA1.out _ Hk10.out Hw10.out).mono ?_
          rintro e w11 ⟨rfl, hw6, hk6⟩
          have hc6 := hk6.2 _ _ _ Hne.out hT Hc10.out
          have Hw11 := Lib.hid hw6
          have Hk11 := Lib.hid (Hk10.out.trans hk6)
          have Hc11 := Lib.hid hc6
          clear d0 d1 d2 d3 d4 d5 d6 hw6 hk6
          have d0 := cell_n hc6 0 (v := .int .i64 client) rfl
          have d1 := cell_n hc6 1 (v := .int .i64 last) rfl
          have d2 := cell_n hc6 2 (v := .int .i64 kind) rfl
          have d3 := cell_n hc6 3 (v := str val) rfl
          have d4 := cell_n hc6 4 (v := .int .i64 ver) rfl
          have d5 := cell_n hc6 5 (v := .slice ko keys.length kcap) rfl
          have d6 := cell_n hc6 6 (v := .int .i64 seen) rfl
          clear hc6
          go_wp2_with fail
          refine (HA2.out _ Hk11.out Hw11.out).mono ?_
          rintro e w12 ⟨rfl, hw6, hk6⟩
          have hc6 := hk6.2 _ _ _ Hne.out hT Hc11.out
          have Hw12 := Lib.hid hw6
          have Hk12 := Lib.hid (Hk11.out.trans hk6)
          have Hc12 := Lib.hid hc6
          clear d0 d1 d2 d3 d4 d5 d6 hw6 hk6
          have d0 := cell_n hc6 0 (v := .int .i64 client) rfl
          have d1 := cell_n hc6 1 (v := .int .i64 last) rfl
          have d2 := cell_n hc6 2 (v := .int .i64 kind) rfl
          have d3 := cell_n hc6 3 (v := str val) rfl
          have d4 := cell_n hc6 4 (v := .int .i64 ver) rfl
          have d5 := cell_n hc6 5 (v := .slice ko keys.length kcap) rfl
          have d6 := cell_n hc6 6 (v := .int .i64 seen) rfl
          clear hc6
          go_wp2_with fail
          refine (HA3.out _ Hk12.out Hw12.out).mono ?_
          rintro e w13 ⟨rfl, hw6, hk6⟩
          have hc6 := hk6.2 _ _ _ Hne.out hT Hc12.out
          have Hw13 := Lib.hid hw6
          have Hk13 := Lib.hid (Hk12.out.trans hk6)
          have Hc13 := Lib.hid hc6
          clear d0 d1 d2 d3 d4 d5 d6 hw6 hk6
          have d0 := cell_n hc6 0 (v := .int .i64 client) rfl
          have d1 := cell_n hc6 1 (v := .int .i64 last) rfl
          have d2 := cell_n hc6 2 (v := .int .i64 kind) rfl
          have d3 := cell_n hc6 3 (v := str val) rfl
          have d4 := cell_n hc6 4 (v := .int .i64 ver) rfl
          have d5 := cell_n hc6 5 (v := .slice ko keys.length kcap) rfl
          have d6 := cell_n hc6 6 (v := .int .i64 seen) rfl
          clear hc6
          go_wp2_with fail
          refine (HA4.out _ Hk13.out Hw13.out).mono ?_
          rintro e w14 ⟨rfl, hw6, hk6⟩
          have hc6 := hk6.2 _ _ _ Hne.out hT Hc13.out
          have Hw14 := Lib.hid hw6
          have Hk14 := Lib.hid (Hk13.out.trans hk6)
          have Hc14 := Lib.hid hc6
          clear d0 d1 d2 d3 d4 d5 d6 hw6 hk6
          have d0 := cell_n hc6 0 (v := .int .i64 client) rfl
          have d1 := cell_n hc6 1 (v := .int .i64 last) rfl
          have d2 := cell_n hc6 2 (v := .int .i64 kind) rfl
          have d3 := cell_n hc6 3 (v := str val) rfl
          have d4 := cell_n hc6 4 (v := .int .i64 ver) rfl
          have d5 := cell_n hc6 5 (v := .slice ko keys.length kcap) rfl
          have d6 := cell_n hc6 6 (v := .int .i64 seen) rfl
          clear hc6
          go_wp2_with fail
          go_roundw
          case rel => exact ⟨k + 1, by go_num, hlt, Hw14, Hk14⟩
          case measure => simp [intOf]; omega
        · have hkn : k = t.sess.length := by omega
          have hfin := hw.out
          rw [hkn, List.take_length, ← E4.out] at hfin
          obtain ⟨p, hp⟩ := hide (putTab t)
          rw [hp.out] at hfin
          have Hf := Lib.hid (Hy.out _ hkb.out).2.1
          obtain ⟨v, hv, ho⟩ := hfin
          have d0 := cell_of_one hv
          have kc := writer_str ho
          clear hkn hv ho
          go_wp2_with fail
          go_ret2
          exact ⟨by rw [hp.out]; rfl, by rw [hB.out]; exact Hf.out⟩
end Go.Proofs.Ytidiodlemjeelaa

namespace Go.Proofs.Ytidiodlemjeelaa
open Go.RowKit Wm Mm
set_option linter.unusedVariables false

theorem ref_int (n : Int) (h0 : 0 ≤ n) (h1 : n ≤ 1099511627775) (w : World) :
    Calls Try.prog 99 #[.int .i64 n] w fun e w' => e = .returned (str (putNum n.toNat)) ∧ Below w.heap.size w w' := by
  obtain ⟨m, rfl⟩ := Int.eq_ofNat_of_zero_le h0
  exact ref_number_any (by omega) w
theorem putKeys_take (l : List (List UInt8)) (k : Nat) (h : k < l.length) : putKeys (l.take (k + 1)) = putKeys (l.take k) ++ putText l[k] := by rw [take_snoc' l k h, putKeys_snoc]

set_option maxHeartbeats 4000000 in
set_option maxRecDepth 100000 in
theorem ref_putTable (vp vs : Value) (t : Tab) (w : World) (ht : Table2 w vp vs t) :
    Calls Try.prog 13 #[.agg #[vp, vs, .int .i64 t.time]] w fun e w' =>
      e = .returned (.tuple #[str (putTabB t), .int .i64 (putTabE t)]) ∧ Below w.heap.size w w' := by
  have hwv : Hid (∀ w1, Below w.heap.size w w1 → Calls Try.prog 98 #[.agg #[vp, vs, .int .i64 t.time]] w1 fun e w' => e = .returned (.bool (tabB t)) ∧ Below w1.heap.size w1 w') := fun w1 h => ref_isTable vp vs t w1 (ht.mono h)
  obtain ⟨po, pcap, rfl, _⟩ := ht.p.slice
  obtain ⟨so, scap, rfl, _⟩ := ht.s.slice
  obtain ⟨W1, hW1⟩ := hide (w.alloc (.cells #[.slice po t.pairs.length pcap, .slice so t.sess.length scap, .int .i64 t.time] 25))
  have hc0 : W1.heap[w.heap.size]? = some (.cells #[.slice po t.pairs.length pcap, .slice so t.sess.length scap, .int .i64 t.time] 25 (0, 0)) := by rw [← hW1.out]; exact hp_at _ _ rfl
  have hb1 : Below w.heap.size w W1 := by rw [← hW1.out]; exact (Below.refl _ _).alloc (Nat.le_refl _) _
  have Hx : Hid (∀ w', Below W1.heap.size W1 w' → w'.heap[w.heap.size]? = some (.cells #[.slice po t.pairs.length pcap, .slice so t.sess.length scap, .int .i64 t.time] 25 (0, 0)) ∧ Below w.heap.size w w' ∧ Table2 w' (.slice po t.pairs.length pcap) (.slice so t.sess.length scap) t) := fun w' h => ⟨(h.block _ (lt_of_block hc0)).trans hc0, hb1.trans (h.mono hb1.size), ht.mono (hb1.trans (h.mono hb1.size))⟩
  have HT := Lib.hid ht
  obtain ⟨B, hB⟩ := hide w.heap.size
  have Hws : Hid (B < W1.heap.size) := by rw [← hB.out]; exact lt_of_block hc0
  rw [hB.out] at Hx hwv
  have H0 := Lib.hid (Below.refl W1.heap.size W1)
  clear ht hc0 hb1
  have b0 := cell_n ((Hx.out _ H0.out).1) 0 (v := .slice po t.pairs.length pcap) rfl
  have b1 := cell_n ((Hx.out _ H0.out).1) 1 (v := .slice so t.sess.length scap) rfl
  have b2 := cell_n ((Hx.out _ H0.out).1) 2 (v := .int .i64 t.time) rfl
  obtain ⟨rb, hrb⟩ := hide (putTabB t)
  obtain ⟨re, hre⟩ := hide (putTabE t)
  rw [hrb.out, hre.out]
  go_enter Try.func13, Try.ntmps13
  go_upto_region 1 with fail
  rw [hW1.out, hB.out]
  go_wp2_with fail
  refine (hwv.out _ (Hx.out _ H0.out).2.1).mono ?_
  rintro e w2 ⟨rfl, hb2⟩
  have H2 := Lib.hid (H0.out.trans (hb2.mono H0.out.size))
  clear b0 b1 b2 hb2
  cases hok : tabB t with
  | false =>
    obtain rfl : [] = rb := by rw [← hrb.out, putTabB, if_neg (by simp [hok])]
    obtain rfl : 6 = re := by rw [← hre.out, putTabE, if_neg (by simp [hok])]
    clear hok
    have Hf := Lib.hid (Hx.out _ H2.out).2.1
    go_wp2_with fail
    go_ret2
    exact ⟨rfl, by rw [hB.out]; exact Hf.out⟩
  | true =>
  obtain rfl : putTab t = rb := by rw [← hrb.out, putTabB, if_pos hok]
  obtain rfl : 0 = re := by rw [← hre.out, putTabE, if_pos hok]
  obtain ⟨f1, f2, f3, f4, f5, f6⟩ := tab_facts hok
  have g1 := putNum_len10 (n := t.time.toNat) (by omega)
  have g2 := putNum_len10 (n := t.pairs.length) (by omega)
  have g3 := putPairs_len t.pairs f2
  have g4 := putNum_len10 (n := t.sess.length) (by omega)
  have KT := Lib.hid (fun w' => ref_int t.time f5 f6 w')
  have KP := Lib.hid (fun w' => ref_number_any (n := t.pairs.length) (by omega) w')
  have KS := Lib.hid (fun w' => ref_number_any (n := t.sess.length) (by omega) w')
  have e4 : putTab t = putNum t.time.toNat ++ putNum t.pairs.length ++ putPairs t.pairs ++ putNum t.sess.length ++ putSs t.sess := by rw [putTab]; simp only [List.append_assoc]
  obtain ⟨n1, hn1⟩ := hide (putNum t.time.toNat)
  obtain ⟨n2, hn2⟩ := hide (putNum t.pairs.length)
  obtain ⟨n4, hn4⟩ := hide (putNum t.sess.length)
  rw [hn1.out] at KT g1 e4
  rw [hn2.out] at KP g2 e4
  rw [hn4.out] at KS g4 e4
  have hs12 : n1.length + n2.length ≤ 9223372036854775807 := by omega
  obtain ⟨p2, hp2⟩ := hide (n1 ++ n2)
  have hq2 : p2.length ≤ 18 := by rw [← hp2.out, List.length_append]; omega
  rw [hp2.out] at e4
  obtain ⟨p3, hp3⟩ := hide (p2 ++ putPairs t.pairs)
  have hq3 : p3.length ≤ 3500 := by rw [← hp3.out, List.length_append]; omega
  rw [hp3.out] at e4
  have hs34 : p3.length + n4.length ≤ 9223372036854775807 := by omega
  obtain ⟨p4, hp4⟩ := hide (p3 ++ n4)
  have hq4 : p4.length ≤ 3600 := by rw [← hp4.out, List.length_append]; omega
  rw [hp4.out] at e4
  have E4 := Lib.hid e4
  have HF2 := Lib.hid f2
  have HF4 := Lib.hid f4
  have HQ2 := Lib.hid hq2
  have HQ4 := Lib.hid hq4
  have HF3 := Lib.hid f3
  have HF1 := Lib.hid f1
  clear hok f1 f2 f3 f4 f5 f6 g1 g2 g3 g4 hq2 hq3 hq4 e4
  have b0 := cell_n ((Hx.out _ H2.out).1) 0 (v := .slice po t.pairs.length pcap) rfl
  have b1 := cell_n ((Hx.out _ H2.out).1) 1 (v := .slice so t.sess.length scap) rfl
  have b2 := cell_n ((Hx.out _ H2.out).1) 2 (v := .int .i64 t.time) rfl
  go_wp2_with fail
  refine (KT.out _).mono ?_
  rintro e w3 ⟨rfl, hb3⟩
  have H3 := Lib.hid (H2.out.trans (hb3.mono H2.out.size))
  clear hb3 b0 b1 b2
  have b0 := cell_n ((Hx.out _ H3.out).1) 0 (v := .slice po t.pairs.length pcap) rfl
  have b1 := cell_n ((Hx.out _ H3.out).1) 1 (v := .slice so t.sess.length scap) rfl
  have b2 := cell_n ((Hx.out _ H3.out).1) 2 (v := .int .i64 t.time) rfl
  go_wp2_with fail
  refine (KP.out _).mono ?_
  rintro e w4 ⟨rfl, hb3⟩
  have H4 := Lib.hid (H3.out.trans (hb3.mono H3.out.size))
  clear hb3 b0 b1 b2
  go_wp2_with fail
  go_loopw [7, 8] (fun s i wr => ∃ k : Nat, i = .int .i64 k ∧ k ≤ t.pairs.length ∧ s = str (p2 ++ putPairs (t.pairs.take k)) ∧ Hid (Below W1.heap.size W1 wr)) (fun _ i _ => t.pairs.length - (intOf i).toNat)
  case atStart => exact ⟨0, rfl, Nat.zero_le _, by simp [putPairs, hp2.out], H4.out⟩
  case round =>
    obtain ⟨k, rfl, hk, rfl, hb⟩ := hrel
    by_cases hlt : k < t.pairs.length
    · have hcell : ∀ w', Below W1.heap.size W1 w' → ∃ bb off, po = some ⟨bb, off, none⟩ ∧ w'.cell? ⟨bb, off + k * 3, none⟩ = some (str t.pairs[k].key) ∧ w'.cell? ⟨bb, off + k * 3 + 1, none⟩ = some (str t.pairs[k].val) ∧ w'.cell? ⟨bb, off + k * 3 + 2, none⟩ = some (.int .i64 t.pairs[k].ver) := fun w' h => (Hx.out _ h).2.2.p.at hlt
      obtain ⟨bb, off, rfl, c0, _, _⟩ := hcell _ hb.out
      have hcell2 : ∀ w', Below W1.heap.size W1 w' → w'.cell? ⟨bb, off + k * 3, none⟩ = some (str t.pairs[k].key) ∧ w'.cell? ⟨bb, off + k * 3 + 1, none⟩ = some (str t.pairs[k].val) ∧ w'.cell? ⟨bb, off + k * 3 + 2, none⟩ = some (.int .i64 t.pairs[k].ver) := by
        intro w' h
        obtain ⟨bb', off', e1, h1⟩ := hcell w' h
        injection e1 with e1
        injection e1 with e1 e2
        subst e1; subst e2
        exact h1
      have hpo := HF2.out _ (List.getElem_mem hlt)
      have hlen : (p2 ++ putPairs (t.pairs.take k)).length ≤ 3500 := by
        have g := putPairs_len (t.pairs.take k) (fun x hx => HF2.out x (List.mem_of_mem_take hx))
        have g' : (t.pairs.take k).length ≤ 32 := by have := HF1.out; simp; omega
        have := HQ2.out
        rw [List.length_append]; omega
      have hsn : p2 ++ putPairs (t.pairs.take (k + 1)) = p2 ++ putPairs (t.pairs.take k) ++ putText t.pairs[k].key ++ putText t.pairs[k].val ++ putNum t.pairs[k].ver.toNat := by
        rw [take_snoc' t.pairs k hlt, putPairs_snoc, putPair]; simp only [List.append_assoc]
      obtain ⟨P, hP⟩ := hide t.pairs[k]
      rw [hP.out] at c0 hcell2 hpo hsn
      obtain ⟨key, val, ver⟩ := P
      simp only [] at c0 hcell2 hsn
      obtain ⟨h16, h64, hv1, hv2⟩ := hpo
      simp only [] at h16 h64 hv1 hv2
      have HE := Lib.hid hcell2
      have K1 := Lib.hid (fun w' => ref_text key w' (by omega))
      have K2 := Lib.hid (fun w' => ref_text val w' (by omega))
      have K3 := Lib.hid (fun w' => ref_int ver (by omega) hv2 w')
      have hl1 := putText_len key (by omega)
      have hl2 := putText_len val (by omega)
      have hl3 := putNum_len10 (n := ver.toNat) (by omega)
      obtain ⟨q0, hq0⟩ := hide (p2 ++ putPairs (t.pairs.take k))
      obtain ⟨m1, hm1⟩ := hide (putText key)
      obtain ⟨m2, hm2⟩ := hide (putText val)
      obtain ⟨m3, hm3⟩ := hide (putNum ver.toNat)
      rw [hq0.out] at hsn hlen ⊢
      rw [hm1.out] at hsn hl1 K1
      rw [hm2.out] at hsn hl2 K2
      rw [hm3.out] at hsn hl3 K3
      have hsa : q0.length + m1.length ≤ 9223372036854775807 := by omega
      have hsb : q0.length + m1.length + m2.length ≤ 9223372036854775807 := by omega
      have hsc : q0.length + m1.length + m2.length + m3.length ≤ 9223372036854775807 := by omega
      have Hsn := Lib.hid hsn
      clear hcell hcell2 hsn hlen h16 h64 hv1 hv2 hl1 hl2 hl3
      have b0 := cell_n ((Hx.out _ hb.out).1) 0 (v := .slice (some ⟨bb, off, none⟩) t.pairs.length pcap) rfl
      have b1 := cell_n ((Hx.out _ hb.out).1) 1 (v := .slice so t.sess.length scap) rfl
      have b2 := cell_n ((Hx.out _ hb.out).1) 2 (v := .int .i64 t.time) rfl
      go_wp2_with fail
      refine (K1.out _).mono ?_
      rintro e w6 ⟨rfl, hb6⟩
      have H6 := Lib.hid (hb.out.trans (hb6.mono hb.out.size))
      clear hb6 b0 b1 b2 c0
      have c0 := (HE.out _ H6.out).2.1
      have b0 := cell_n ((Hx.out _ H6.out).1) 0 (v := .slice (some ⟨bb, off, none⟩) t.pairs.length pcap) rfl
      have b1 := cell_n ((Hx.out _ H6.out).1) 1 (v := .slice so t.sess.length scap) rfl
      have b2 := cell_n ((Hx.out _ H6.out).1) 2 (v := .int .i64 t.time) rfl
      go_wp2_with fail
      refine (K2.out _).mono ?_
      rintro e w7 ⟨rfl, hb6⟩
      have H7 := Lib.hid (H6.out.trans (hb6.mono H6.out.size))
      clear hb6 b0 b1 b2 c0
      have c0 := (HE.out _ H7.out).2.2
      have b0 := cell_n ((Hx.out _ H7.out).1) 0 (v := .slice (some ⟨bb, off, none⟩) t.pairs.length pcap) rfl
      have b1 := cell_n ((Hx.out _ H7.out).1) 1 (v := .slice so t.sess.length scap) rfl
      have b2 := cell_n ((Hx.out _ H7.out).1) 2 (v := .int .i64 t.time) rfl
      go_wp2_with fail
      refine (K3.out _).mono ?_
      rintro e w8 ⟨rfl, hb6⟩
      have H8 := Lib.hid (H7.out.trans (hb6.mono H7.out.size))
      clear hb6 b0 b1 b2 c0
      go_wp2_with fail
      go_roundw
      case rel => exact ⟨k + 1, by go_num, hlt, by rw [Hsn.out]; simp, H8⟩
      case measure => simp [intOf]; omega
    · have hkn : k = t.pairs.length := by omega
      have e1 : p2 ++ putPairs (t.pairs.take k) = p3 := by rw [hkn, List.take_length, hp3.out]
      rw [e1]
      clear hkn e1
      have b0 := cell_n ((Hx.out _ hb.out).1) 0 (v := .slice po t.pairs.length pcap) rfl
      have b1 := cell_n ((Hx.out _ hb.out).1) 1 (v := .slice so t.sess.length scap) rfl
      have b2 := cell_n ((Hx.out _ hb.out).1) 2 (v := .int .i64 t.time) rfl
      go_wp2_with fail
      refine (KS.out _).mono ?_
      rintro e w6 ⟨rfl, hb6⟩
      have H6 := Lib.hid (hb.out.trans (hb6.mono hb.out.size))
      clear hb6 b0 b1 b2
      go_upto_block 2 with fail
      rw [hp4.out]
      go_wp2_with fail
      go_loopw [7, 13] (fun s i wr => ∃ k : Nat, i = .int .i64 k ∧ k ≤ t.sess.length ∧ s = str (p4 ++ putSs (t.sess.take k)) ∧ Hid (Below W1.heap.size W1 wr)) (fun _ i _ => t.sess.length - (intOf i).toNat)
      case atStart => exact ⟨0, rfl, Nat.zero_le _, by simp [putSs], H6.out⟩
      case round =>
        obtain ⟨k, rfl, hk, rfl, hb⟩ := hrel
        by_cases hlt : k < t.sess.length
        · obtain ⟨bb, off, kv, rfl, hks, hcs⟩ := HT.out.s.at hlt
          have hbw : Below w.heap.size w wr := by rw [hB.out]; exact (Hx.out _ hb.out).2.1
          have hpo := HF4.out _ (List.getElem_mem hlt)
          have hlen : (p4 ++ putSs (t.sess.take k)).length ≤ 12000 := by
            have g := putSs_len (t.sess.take k) (fun x hx => HF4.out x (List.mem_of_mem_take hx))
            have g' : (t.sess.take k).length ≤ 8 := by have := HF3.out; simp; omega
            have := HQ4.out
            rw [List.length_append]; omega
          have hsn : p4 ++ putSs (t.sess.take (k + 1)) = p4 ++ putSs (t.sess.take k) ++ putSess t.sess[k] := by
            rw [take_snoc' t.sess k hlt, putSs_snoc]; simp only [List.append_assoc]
          obtain ⟨P, hP⟩ := hide t.sess[k]
          rw [hP.out] at hks hcs hpo hsn
          obtain ⟨client, last, kind, val, ver, keys, seen⟩ := P
          simp only [] at hks hcs
          obtain ⟨hc1, hc2, hl1, hl2, hs1, hs2, hro⟩ := hpo
          simp only [] at hc1 hc2 hl1 hl2 hs1 hs2 hro
          obtain ⟨r1, r2, r3, r4, r5, r6, r7⟩ := hro
          obtain ⟨cn, rfl⟩ := Int.eq_ofNat_of_zero_le (by omega : 0 ≤ client)
          obtain ⟨ln, rfl⟩ := Int.eq_ofNat_of_zero_le hl1
          obtain ⟨sn, rfl⟩ := Int.eq_ofNat_of_zero_le hs1
          obtain ⟨kn, rfl⟩ := Int.eq_ofNat_of_zero_le r1
          obtain ⟨vn, rfl⟩ := Int.eq_ofNat_of_zero_le r4
          obtain ⟨ko, kcap, rfl, _⟩ := hks.slice
          have hse : putSess ⟨(cn : Int), (ln : Int), (kn : Int), val, (vn : Int), keys, (sn : Int)⟩ = putNums [cn, ln, sn, kn] ++ putText val ++ putNum vn ++ putNum keys.length ++ putKeys keys := by
            simp [putSess, putRes, putNums]
          rw [hse] at hsn
          have hcc : ∀ i u, (rowSess ⟨(cn : Int), (ln : Int), (kn : Int), val, (vn : Int), keys, (sn : Int)⟩ (.slice ko keys.length kcap))[i]? = some u → wr.cell? ⟨bb, off + k * 7 + i, none⟩ = some u := fun i u hu => (hbw.cell (p := ⟨bb, off + k * 7 + i, none⟩) (World.block_lt_of_cell? _ _ (hcs i u hu))).trans (hcs i u hu)
          have c0 := hcc 0 (.int .i64 (cn : Nat)) rfl
          have c1 := hcc 1 (.int .i64 (ln : Nat)) rfl
          have c2 := hcc 2 (.int .i64 (kn : Nat)) rfl
          have c3 := hcc 3 (str val) rfl
          have c4 := hcc 4 (.int .i64 (vn : Nat)) rfl
          have c5 := hcc 5 (.slice ko keys.length kcap) rfl
          have c6 := hcc 6 (.int .i64 (sn : Nat)) rfl
          rw [Nat.add_zero] at c0
          obtain ⟨U, hU⟩ := hide (wr.alloc (.cells #[.int .i64 (cn : Nat), .int .i64 (ln : Nat), .int .i64 (kn : Nat), str val, .int .i64 (vn : Nat), .slice ko keys.length kcap, .int .i64 (sn : Nat)] 136))
          obtain ⟨U2, hU2⟩ := hide (U.alloc (.cells #[.int .i64 (cn : Nat), .int .i64 (ln : Nat), .int .i64 (sn : Nat), .int .i64 (kn : Nat)] 3))
          have hb0 : Below W1.heap.size W1 U := by rw [← hU.out]; exact hb.out.alloc hb.out.size _
          have hcU0 : U.heap[wr.heap.size]? = some (.cells #[.int .i64 (cn : Nat), .int .i64 (ln : Nat), .int .i64 (kn : Nat), str val, .int .i64 (vn : Nat), .slice ko keys.length kcap, .int .i64 (sn : Nat)] 136 (0, 0)) := by rw [← hU.out]; exact hp_at _ _ rfl
          have hcU : U2.heap[wr.heap.size]? = some (.cells #[.int .i64 (cn : Nat), .int .i64 (ln : Nat), .int .i64 (kn : Nat), str val, .int .i64 (vn : Nat), .slice ko keys.length kcap, .int .i64 (sn : Nat)] 136 (0, 0)) := by rw [← hU2.out]; exact (hp_past _ _ (by have := lt_of_block hcU0; omega)).trans hcU0
          have hcI : U2.heap[U.heap.size]? = some (.cells #[.int .i64 (cn : Nat), .int .i64 (ln : Nat), .int .i64 (sn : Nat), .int .i64 (kn : Nat)] 3 (0, 0)) := by rw [← hU2.out]; exact hp_at _ _ rfl
          have hb2 : Below W1.heap.size W1 U2 := by rw [← hU2.out]; exact hb0.alloc hb0.size _
          have HU : Hid (∀ w', Below U2.heap.size U2 w' → w'.heap[wr.heap.size]? = some (.cells #[.int .i64 (cn : Nat), .int .i64 (ln : Nat), .int .i64 (kn : Nat), str val, .int .i64 (vn : Nat), .slice ko keys.length kcap, .int .i64 (sn : Nat)] 136 (0, 0)) ∧ w'.heap[U.heap.size]? = some (.cells #[.int .i64 (cn : Nat), .int .i64 (ln : Nat), .int .i64 (sn : Nat), .int .i64 (kn : Nat)] 3 (0, 0)) ∧ Below W1.heap.size W1 w') := fun w' h => ⟨(h.block _ (lt_of_block hcU)).trans hcU, (h.block _ (lt_of_block hcI)).trans hcI, hb2.trans (h.mono hb2.size)⟩
          have Hks : Hid (∀ w', Below W1.heap.size W1 w' → Strs w' (.slice ko keys.length kcap) keys) := fun w' h => hks.mono (by rw [hB.out]; exact (Hx.out _ h).2.1)
          have hnl : ∀ n ∈ [cn, ln, sn, kn], n < 1099511627776 := by
            intro n hn
            simp at hn
            rcases hn with rfl | rfl | rfl | rfl <;> omega
          have HNL := Lib.hid hnl
          have K1 := Lib.hid (fun w' => ref_text val w' (by omega))
          have K2 := Lib.hid (fun w' => ref_number_any (n := vn) (by omega) w')
          have K3 := Lib.hid (fun w' => ref_number_any (n := keys.length) (by omega) w')
          have K4 : Hid (∀ j (hj : j < keys.length) w', Calls Try.prog 100 #[str keys[j]] w' fun e w'' => e = .returned (str (putText keys[j])) ∧ Below w'.heap.size w' w'') := fun j hj w' => ref_text keys[j] w' (by have := r7 _ (List.getElem_mem hj); omega)
          have hm1l := putText_len val (by omega)
          have hm2l := putNum_len10 (n := vn) (by omega)
          have hm3l := putNum_len10 (n := keys.length) (by omega)
          have H16 := Lib.hid r7
          have H32 := Lib.hid r6
          obtain ⟨q0, hq0⟩ := hide (p4 ++ putSs (t.sess.take k))
          obtain ⟨m1, hm1⟩ := hide (putText val)
          obtain ⟨m2, hm2⟩ := hide (putNum vn)
          obtain ⟨m3, hm3⟩ := hide (putNum keys.length)
          rw [hq0.out] at hsn hlen ⊢
          rw [hm1.out] at hsn hm1l K1
          rw [hm2.out] at hsn hm2l K2
          rw [hm3.out] at hsn hm3l K3
          have Hlen := Lib.hid hlen
          have Hsn := Lib.hid hsn
          have Hm1l := Lib.hid hm1l
          have Hm2l := Lib.hid hm2l
          have Hm3l := Lib.hid hm3l
          have Hr3 := Lib.hid r3
          have d0 := cell_n hcU0 0 (v := .int .i64 (cn : Nat)) rfl
          have d1 := cell_n hcU0 1 (v := .int .i64 (ln : Nat)) rfl
          have d2 := cell_n hcU0 2 (v := .int .i64 (kn : Nat)) rfl
          have d6 := cell_n hcU0 6 (v := .int .i64 (sn : Nat)) rfl
          clear hse hsn hlen hc1 hc2 hl1 hl2 hs1 hs2 r1 r2 r3 r4 r5 r6 r7 hks hcs hcc hbw hb0 hcU hcU0 hcI hb2 hnl hm1l hm2l hm3l
          have b0 := cell_n ((Hx.out _ hb.out).1) 0 (v := .slice po t.pairs.length pcap) rfl
          have b1 := cell_n ((Hx.out _ hb.out).1) 1 (v := .slice (some ⟨bb, off, none⟩) t.sess.length scap) rfl
          have b2 := cell_n ((Hx.out _ hb.out).1) 2 (v := .int .i64 t.time) rfl
          go_upto_region 20 with fail
          rw [hU.out]
          obtain ⟨Q, hQ⟩ := hide wr.heap.size
          rw [hQ.out] at HU d0 d1 d2 d6 ⊢
          clear b0 b1 b2 c0 c1 c2 c3 c4 c5 c6
          go_upto_region 21 with fail
          rw [hU2.out]
          obtain ⟨Q2, hQ2⟩ := hide U.heap.size
          rw [hQ2.out] at HU ⊢
          clear d0 d1 d2 d6
          go_wp2_with fail
          go_loopw [7, 16] (fun s i wx => ∃ j : Nat, i = .int .i64 j ∧ j ≤ 4 ∧ s = str (q0 ++ putNums ([cn, ln, sn, kn].take j)) ∧ Hid (Below U2.heap.size U2 wx)) (fun _ i _ => 4 - (intOf i).toNat)
          case atStart => exact ⟨0, rfl, by decide, by simp [putNums], Below.refl _ _⟩
          case round =>
            obtain ⟨j, rfl, hj, rfl, hbx⟩ := hrel
            by_cases hj4 : j < 4
            · have hcj : ∃ x : Nat, [cn, ln, sn, kn][j]? = some x ∧ wr.cell? ⟨Q2, j, none⟩ = some (.int .i64 (x : Nat)) := by
                have hI := (HU.out _ hbx.out).2.1
                match j, hj4 with
                | 0, _ => exact ⟨cn, rfl, cell_n hI 0 rfl⟩
                | 1, _ => exact ⟨ln, rfl, cell_n hI 1 rfl⟩
                | 2, _ => exact ⟨sn, rfl, cell_n hI 2 rfl⟩
                | 3, _ => exact ⟨kn, rfl, cell_n hI 3 rfl⟩
              obtain ⟨x, hx1, cj⟩ := hcj
              have hmem : x ∈ [cn, ln, sn, kn] := List.mem_of_getElem? hx1
              have hxb := HNL.out x hmem
              have hst : q0 ++ putNums ([cn, ln, sn, kn].take (j + 1)) = q0 ++ putNums ([cn, ln, sn, kn].take j) ++ putNum x := by
                obtain ⟨hjl, e⟩ := List.getElem?_eq_some_iff.1 hx1
                rw [take_snoc' _ j hjl, putNums_snoc, e, List.append_assoc]
              have hql : (q0 ++ putNums ([cn, ln, sn, kn].take j)).length ≤ 12100 := by
                have g := putNums_len ([cn, ln, sn, kn].take j) (fun n hn => by have := HNL.out n (List.mem_of_mem_take hn); omega)
                have g' : ([cn, ln, sn, kn].take j).length ≤ 4 := by rw [List.length_take]; simp; omega
                have := Hlen.out
                rw [List.length_append]; omega
              have KN := Lib.hid (ref_number_any (n := x) (by omega) wr)
              have hnl := putNum_len10 (n := x) (by omega)
              obtain ⟨mx, hmx⟩ := hide (putNum x)
              obtain ⟨qj, hqj⟩ := hide (q0 ++ putNums ([cn, ln, sn, kn].take j))
              rw [hmx.out] at hst hnl KN
              rw [hqj.out] at hst hql ⊢
              have hsum : qj.length + mx.length ≤ 9223372036854775807 := by omega
              have Hst := Lib.hid hst
              have t4 : decide ((j : Int) < 4) = true := decide_eq_true (by omega)
              clear hst hql hnl hmem hxb hx1
              go_wp2_with fail
              refine KN.out.mono ?_
              rintro e w9 ⟨rfl, hb9⟩
              have H9 := Lib.hid (hbx.out.trans (hb9.mono hbx.out.size))
              clear hb9 cj KN
              go_wp2_with fail
              go_roundw
              case rel => exact ⟨j + 1, by go_num, hj4, by rw [Hst.out], H9⟩
              case measure => simp [intOf]; omega
            · have hj5 : j = 4 := by omega
              have t4 : decide ((j : Int) < 4) = false := decide_eq_false (by omega)
              have e5 : q0 ++ putNums ([cn, ln, sn, kn].take j) = q0 ++ putNums [cn, ln, sn, kn] := by rw [hj5]; rfl
              rw [e5]
              have hq5l : (q0 ++ putNums [cn, ln, sn, kn]).length ≤ 12100 := by
                have g := putNums_len [cn, ln, sn, kn] (fun n hn => by have := HNL.out n hn; omega)
                have := Hlen.out
                rw [List.length_append]; simp at g; omega
              have hsn := Hsn.out
              rw [← List.append_assoc, ← List.append_assoc, ← List.append_assoc, ← List.append_assoc] at hsn
              obtain ⟨q5, hq5⟩ := hide (q0 ++ putNums [cn, ln, sn, kn])
              rw [hq5.out] at hsn hq5l ⊢
              have hsa : q5.length + m1.length ≤ 9223372036854775807 := by have := Hm1l.out; have := Hr3.out; omega
              have hsb : q5.length + m1.length + m2.length ≤ 9223372036854775807 := by have := Hm1l.out; have := Hr3.out; have := Hm2l.out; omega
              have hsc : q5.length + m1.length + m2.length + m3.length ≤ 9223372036854775807 := by have := Hm1l.out; have := Hr3.out; have := Hm2l.out; have := Hm3l.out; omega
              have hs6 : (q5 ++ m1 ++ m2 ++ m3).length ≤ 12300 := by have := Hm1l.out; have := Hr3.out; have := Hm2l.out; have := Hm3l.out; simp; omega
              have Hs6 := Lib.hid hs6
              have Hsn2 := Lib.hid hsn
              clear hsn hq5l hj4 hj5 e5 hs6
              have d0 := cell_n (HU.out _ hbx.out).1 0 (v := .int .i64 (cn : Nat)) rfl
              have d1 := cell_n (HU.out _ hbx.out).1 1 (v := .int .i64 (ln : Nat)) rfl
              have d2 := cell_n (HU.out _ hbx.out).1 2 (v := .int .i64 (kn : Nat)) rfl
              have d3 := cell_n (HU.out _ hbx.out).1 3 (v := str val) rfl
              have d4 := cell_n (HU.out _ hbx.out).1 4 (v := .int .i64 (vn : Nat)) rfl
              have d5 := cell_n (HU.out _ hbx.out).1 5 (v := .slice ko keys.length kcap) rfl
              have d6 := cell_n (HU.out _ hbx.out).1 6 (v := .int .i64 (sn : Nat)) rfl
              go_wp2_with fail
              refine (K1.out _).mono ?_
              rintro e w9 ⟨rfl, hb9⟩
              have H9 := Lib.hid (hbx.out.trans (hb9.mono hbx.out.size))
              clear hb9 d0 d1 d2 d3 d4 d5 d6
              have d0 := cell_n (HU.out _ H9.out).1 0 (v := .int .i64 (cn : Nat)) rfl
              have d1 := cell_n (HU.out _ H9.out).1 1 (v := .int .i64 (ln : Nat)) rfl
              have d2 := cell_n (HU.out _ H9.out).1 2 (v := .int .i64 (kn : Nat)) rfl
              have d3 := cell_n (HU.out _ H9.out).1 3 (v := str val) rfl
              have d4 := cell_n (HU.out _ H9.out).1 4 (v := .int .i64 (vn : Nat)) rfl
              have d5 := cell_n (HU.out _ H9.out).1 5 (v := .slice ko keys.length kcap) rfl
              have d6 := cell_n (HU.out _ H9.out).1 6 (v := .int .i64 (sn : Nat)) rfl
              go_wp2_with fail
              refine (K2.out _).mono ?_
              rintro e w10 ⟨rfl, hb9⟩
              have H10 := Lib.hid (H9.out.trans (hb9.mono H9.out.size))
              clear hb9 d0 d1 d2 d3 d4 d5 d6
              have d0 := cell_n (HU.out _ H10.out).1 0 (v := .int .i64 (cn : Nat)) rfl
              have d1 := cell_n (HU.out _ H10.out).1 1 (v := .int .i64 (ln : Nat)) rfl
              have d2 := cell_n (HU.out _ H10.out).1 2 (v := .int .i64 (kn : Nat)) rfl
              have d3 := cell_n (HU.out _ H10.out).1 3 (v := str val) rfl
              have d4 := cell_n (HU.out _ H10.out).1 4 (v := .int .i64 (vn : Nat)) rfl
              have d5 := cell_n (HU.out _ H10.out).1 5 (v := .slice ko keys.length kcap) rfl
              have d6 := cell_n (HU.out _ H10.out).1 6 (v := .int .i64 (sn : Nat)) rfl
              go_wp2_with fail
              refine (K3.out _).mono ?_
              rintro e w11 ⟨rfl, hb9⟩
              have H11 := Lib.hid (H10.out.trans (hb9.mono H10.out.size))
              clear hb9 d0 d1 d2 d3 d4 d5 d6
              go_upto_block 6 with fail
              have e6 : q5 ++ (m1 ++ (m2 ++ m3)) = q5 ++ m1 ++ m2 ++ m3 := by simp only [List.append_assoc]
              rw [e6]
              clear e6 hsa hsb hsc
              obtain ⟨q6, hq6⟩ := hide (q5 ++ m1 ++ m2 ++ m3)
              rw [hq6.out] at Hs6 Hsn2 ⊢
              go_wp2_with fail
              go_loopw [7, 21] (fun s i wx => ∃ j : Nat, i = .int .i64 j ∧ j ≤ keys.length ∧ s = str (q6 ++ putKeys (keys.take j)) ∧ Hid (Below U2.heap.size U2 wx)) (fun _ i _ => keys.length - (intOf i).toNat)
              case atStart => exact ⟨0, rfl, Nat.zero_le _, by simp [putKeys], H11.out⟩
              case round =>
                obtain ⟨l, rfl, hl, rfl, hby⟩ := hrel
                have d0 := cell_n (HU.out _ hby.out).1 0 (v := .int .i64 (cn : Nat)) rfl
                have d1 := cell_n (HU.out _ hby.out).1 1 (v := .int .i64 (ln : Nat)) rfl
                have d2 := cell_n (HU.out _ hby.out).1 2 (v := .int .i64 (kn : Nat)) rfl
                have d3 := cell_n (HU.out _ hby.out).1 3 (v := str val) rfl
                have d4 := cell_n (HU.out _ hby.out).1 4 (v := .int .i64 (vn : Nat)) rfl
                have d5 := cell_n (HU.out _ hby.out).1 5 (v := .slice ko keys.length kcap) rfl
                have d6 := cell_n (HU.out _ hby.out).1 6 (v := .int .i64 (sn : Nat)) rfl
                by_cases hlk : l < keys.length
                · obtain ⟨b9, off9, rfl, ck⟩ := (Hks.out _ (HU.out _ hby.out).2.2).at hlk
                  have KN := Lib.hid (K4.out l hlk wr)
                  have hst : q6 ++ putKeys (keys.take (l + 1)) = q6 ++ putKeys (keys.take l) ++ putText keys[l] := by rw [putKeys_take keys l hlk, List.append_assoc]
                  have hql : (q6 ++ putKeys (keys.take l)).length ≤ 14000 := by
                    have g := putKeys_len (keys.take l) (fun x hx => H16.out x (List.mem_of_mem_take hx))
                    have g' : (keys.take l).length ≤ 32 := by have := H32.out; simp; omega
                    have := Hs6.out
                    rw [List.length_append]; omega
                  have hx16 := H16.out _ (List.getElem_mem hlk)
                  obtain ⟨x, hX⟩ := hide keys[l]
                  rw [hX.out] at ck KN hst hx16
                  have hxl := putText_len x (by omega)
                  obtain ⟨mx, hmx⟩ := hide (putText x)
                  obtain ⟨qj, hqj⟩ := hide (q6 ++ putKeys (keys.take l))
                  rw [hmx.out] at hst hxl KN
                  rw [hqj.out] at hst hql ⊢
                  have hsum : qj.length + mx.length ≤ 9223372036854775807 := by omega
                  have Hst := Lib.hid hst
                  clear hst hql hxl hx16
                  go_wp2_with fail
                  refine KN.out.mono ?_
                  rintro e w12 ⟨rfl, hb9⟩
                  have H12 := Lib.hid (hby.out.trans (hb9.mono hby.out.size))
                  clear hb9 ck KN d0 d1 d2 d3 d4 d5 d6
                  go_wp2_with fail
                  go_roundw
                  case rel => exact ⟨l + 1, by go_num, hlk, by rw [Hst.out], H12⟩
                  case measure => simp [intOf]; omega
                · have hkn : l = keys.length := by omega
                  have e7 : q6 ++ putKeys (keys.take l) = p4 ++ putSs (t.sess.take (k + 1)) := by rw [hkn, List.take_length, Hsn2.out]
                  rw [e7]
                  have Hf := Lib.hid (HU.out _ hby.out).2.2
                  clear hkn e7
                  go_wp2_with fail
                  go_roundw
                  case rel => exact ⟨k + 1, by go_num, hlt, rfl, Hf⟩
                  case measure => simp [intOf]; omega
        · have hkn : k = t.sess.length := by omega
          have e1 : p4 ++ putSs (t.sess.take k) = putTab t := by rw [hkn, List.take_length, E4.out]
          rw [e1]
          have Hf := Lib.hid (Hx.out _ hb.out).2.1
          clear hkn e1
          have b0 := cell_n ((Hx.out _ hb.out).1) 0 (v := .slice po t.pairs.length pcap) rfl
          have b1 := cell_n ((Hx.out _ hb.out).1) 1 (v := .slice so t.sess.length scap) rfl
          have b2 := cell_n ((Hx.out _ hb.out).1) 2 (v := .int .i64 t.time) rfl
          obtain ⟨p, hp⟩ := hide (putTab t)
          rw [hp.out]
          go_wp2_with fail
          go_ret2
          exact ⟨by rw [hp.out]; rfl, by rw [hB.out]; exact Hf.out⟩
end Go.Proofs.Ytidiodlemjeelaa
