/-
  Reading results, the panicking reader's way. Rows of records in memory that was laid later than a point; tables of such.
-/
import Derived.Test.YtidiodlemjeelaaEr
import Derived.Test.YtidiodlemjeelaaTt
import Derived.Deep.AppendLies
import Derived.Deep.RegionLaw
namespace Go.Proofs.Ytidiodlemjeelaa
open Go.RowKit Wm Mm
set_option linter.unusedVariables false

theorem info_str : (Try.prog.info? 9).map (fun i => (i.zero, i.size, i.bytes)) = some (some (.string ByteArray.empty), 1, 16) := by kernel_rfl
def rdStrs : Nat → List (List UInt8) → List UInt8 → Res (List (List UInt8))
  | 0, acc, s => .ok (acc, s)
  | k + 1, acc, s =>
    match rdText 16 s with
    | .error z => .error z
    | .ok (x, t) => rdStrs k (acc ++ [x]) t
structure ResP where
  kind : Nat
  val : List UInt8
  ver : Nat
  keys : List (List UInt8)
def rdRes (s : List UInt8) : Res ResP :=
  match rdNum s with
  | .error z => .error z
  | .ok (k, s1) => match rdText 64 s1 with
    | .error z => .error z
    | .ok (v, s2) => match rdNum s2 with
      | .error z => .error z
      | .ok (n, s3) => match rdUpTo 32 s3 with
        | .error z => .error z
        | .ok (m, s4) => match rdStrs m [] s4 with
          | .error z => .error z
          | .ok (l, s5) => .ok (⟨k, v, n, l⟩, s5)
/-- v is a slice of these texts, in a block from S on -/
def StrsF (S : Nat) (w : World) (v : Value) (l : List (List UInt8)) : Prop := w.ownsRow S 9 1 v l.length (l.map str)
def GetsRes (S b : Nat) (w : World) (res : Res ResP) (e : Ending) (w' : World) : Prop :=
  match res with
  | .ok (q, t) => ∃ kv, e = .returned (vRes q.kind q.val q.ver kv) ∧ StrsF S w' kv q.keys ∧ Rd w' b t ∧ w.grownBy w' (some b)
  | .error z => e = stopped z ∧ w.grownBy w' (some b)

abbrev resZero : Array Value := #[.int .i64 0, str [], .int .i64 0, .slice none 0 0]
/-- what stands while the keys are read: the result's cells, the local's cells, the reader, the row of keys -/
structure KeyStage (w W : World) (b B Q : Nat) (kind : Nat) (val : List UInt8) (ver : Nat) (kv : Value) (acc : List (List UInt8)) (u : List UInt8) : Prop where
  res : W.heap[B]? = some (.cells resZero 29 (0, 0))
  loc : W.heap[Q]? = some (.cells #[.int .i64 kind, str val, .int .i64 ver, kv] 29 (0, 0))
  rd : Rd W b u
  grown : w.grownBy W (some b)
  own : W.ownsRow (Q + 1) 9 1 kv acc.length (acc.map str)

theorem grown_drew {w w' : World} {row : Option Nat} (h : w.grownBy w' row) : w.grownBy w'.drew row := ⟨h.os, h.tape, h.output, h.size, h.block⟩
theorem KeyStage.push {w wr w1 w2 : World} {b B Q kind ver : Nat} {val u x t : List UInt8} {kv v' : Value} {acc : List (List UInt8)} {o : Obj} (h : KeyStage w wr b B Q kind val ver kv acc u) (hB : w.heap.size = B) (hb : b < B) (hQ : B < Q)
    (hr : Rd w1 b t) (hg : wr.drew.grownBy w1 (some b)) (hown : w2.ownsRow (Q + 1) 9 1 v' (acc.length + 1) (acc.map str ++ [str x])) (hgrow : (w1.alloc o).grownBy w2 kv.ownBlock) :
    w2.heap[Q]? = some (.cells #[.int .i64 kind, str val, .int .i64 ver, kv] 29 (0, 0)) ∧ KeyStage w (w2.setCell ⟨Q, 3, none⟩ v') b B Q kind val ver v' (acc ++ [x]) t := by
  have hsz := hg.size
  have hQl : Q < wr.heap.size := lt_of_block h.loc
  have hsz' : wr.heap.size ≤ w1.heap.size := hsz
  have own1 : w1.ownsRow (Q + 1) 9 1 kv acc.length (acc.map str) := h.own.drew.kept hg (Or.inr (own_other h.own (by omega)).symm)
  have keep : ∀ k, k ≠ b → k < Q + 1 → w2.heap[k]? = wr.heap[k]? := fun k hk hl => by
    have e1 := hg.block k (by show k < wr.heap.size; omega) (by simpa using hk)
    have e2 : (w1.alloc o).heap[k]? = w1.heap[k]? := hp_past _ _ (by omega)
    have e3 := hgrow.block k (by simp only [World.size_alloc]; omega) (own_other own1 hl)
    exact e3.trans (e2.trans e1)
  have hq2 := (keep Q (by omega) (by omega)).trans h.loc
  have hr2 : Rd w2 b t := hr.kept (w' := w2) (row := kv.ownBlock) (grown_trans (World.grownBy_alloc w1 o _) hgrow) (own_other own1 (by omega))
  have own2 : (w1.alloc o).ownsRow (Q + 1) 9 1 kv acc.length (acc.map str) := own1.alloc _
  have g1 : w.grownBy (w1.alloc o) (some b) := grown_trans (grown_trans (grown_drew h.grown) hg) (World.grownBy_alloc w1 o _)
  refine ⟨hq2, ?_, ?_, ?_, ?_, ?_⟩
  · exact hp_set_other ((keep B (by omega) (by omega)).trans h.res) (by simp; omega)
  · rw [heap_setCell, if_pos rfl, hq2]; rfl
  · exact ⟨hp_set_other hr2.1 (by simp; omega), hr2.2⟩
  · exact grown_fresh' (grown_own g1 own2 (by omega) hgrow) (by simp; omega) _
  · have e1 : (acc ++ [x]).length = acc.length + 1 := by simp
    have e2 : (acc ++ [x]).map str = acc.map str ++ [str x] := by simp
    rw [e1, e2]; exact own_up hown (Up.setCell (Q + 1) w2 (a := ⟨Q, 3, none⟩) (by simp) _) (Nat.le_refl _)

set_option maxHeartbeats 2000000 in
set_option maxRecDepth 100000 in
theorem result_rd {b : Nat} {s : List UInt8} {w : World} (h : Rd w b s) :
    Calls Try.prog 152 #[.pointer (some ⟨b, 0, none⟩)] w (GetsRes w.heap.size b w (rdRes s)) := by
  obtain ⟨res, HR⟩ := hide (rdRes s)
  rw [HR.out]
  have hbw : b < w.heap.size := lt_of_block h.1
  obtain ⟨w0, hW⟩ := hide (w.alloc (.cells resZero 29))
  have hc : w0.heap[w.heap.size]? = some (.cells resZero 29 (0, 0)) := by rw [← hW.out]; exact hp_at _ _ rfl
  have hg : w.grownBy w0 (some b) := by rw [← hW.out]; exact World.grownBy_alloc w _ _
  have hr : Rd w0 b s := h.kept (by rw [← hW.out]; exact World.grownBy_alloc w _ none) (by simp)
  have Hc0 := Lib.hid hc
  have Hg0 := Lib.hid hg
  have Hr0 := Lib.hid hr
  have Hne : Hid (some w.heap.size ≠ some b) := by show _ ≠ _; simp; omega
  have Hs0 : Hid (w.heap.size < w0.heap.size) := lt_of_block hc
  have Hbw := Lib.hid hbw
  have hrd0 : rdRes s = res := HR.out
  unfold rdRes at hrd0
  have HR0 := Lib.hid hrd0
  clear hc hg hr h hbw hrd0
  go_enter Try.func152, Try.ntmps152
  go_wp2_with fail
  rw [hW.out]
  refine (number_rd Hr0.out).mono ?_
  intro e w1 hp
  cases hx : rdNum s with
  | error z =>
    rw [hx] at hp
    obtain rfl : .error z = res := by have hh := HR0.out; rw [hx] at hh; exact hh
    obtain ⟨rfl, hg⟩ := hp
    have Hge := Lib.hid (grown_trans Hg0.out hg)
    clear hg hx
    go_wp2_with fail
    exact ⟨rfl, rfl, Hge.out⟩
  | ok p =>
  obtain ⟨k, s1⟩ := p
  rw [hx] at hp
  have hrd1 := HR0.out
  rw [hx] at hrd1
  simp only [] at hrd1
  have HR1 := Lib.hid hrd1
  obtain ⟨rfl, hr, hg⟩ := hp
  have Hr1 := Lib.hid hr
  have Hc1 := Lib.hid ((hg.block _ Hs0.out Hne.out).trans Hc0.out)
  have Hs1 := Lib.hid (Nat.lt_of_lt_of_le Hs0.out hg.size)
  have Hg1 := Lib.hid (grown_trans Hg0.out hg)
  clear hr hg hx hrd1
  go_wp2_with fail
  refine (text_rd 64 (by decide) Hr1.out).mono ?_
  intro e w2 hp
  cases hx : rdText 64 s1 with
  | error z =>
    rw [hx] at hp
    obtain rfl : .error z = res := by have hh := HR1.out; rw [hx] at hh; exact hh
    obtain ⟨rfl, hg⟩ := hp
    have Hge := Lib.hid (grown_trans Hg1.out hg)
    clear hg hx
    go_wp2_with fail
    exact ⟨rfl, rfl, Hge.out⟩
  | ok p =>
  obtain ⟨v, s2⟩ := p
  rw [hx] at hp
  have hrd2 := HR1.out
  rw [hx] at hrd2
  simp only [] at hrd2
  have HR2 := Lib.hid hrd2
  obtain ⟨rfl, hr, hg⟩ := hp
  have Hr2 := Lib.hid hr
  have Hc2 := Lib.hid ((hg.block _ Hs1.out Hne.out).trans Hc1.out)
  have Hs2 := Lib.hid (Nat.lt_of_lt_of_le Hs1.out hg.size)
  have Hg2 := Lib.hid (grown_trans Hg1.out hg)
  clear hr hg hx hrd2
  go_wp2_with fail
  refine (number_rd Hr2.out).mono ?_
  intro e w3 hp
  cases hx : rdNum s2 with
  | error z =>
    rw [hx] at hp
    obtain rfl : .error z = res := by have hh := HR2.out; rw [hx] at hh; exact hh
    obtain ⟨rfl, hg⟩ := hp
    have Hge := Lib.hid (grown_trans Hg2.out hg)
    clear hg hx
    go_wp2_with fail
    exact ⟨rfl, rfl, Hge.out⟩
  | ok p =>
  obtain ⟨n, s3⟩ := p
  rw [hx] at hp
  have hrd3 := HR2.out
  rw [hx] at hrd3
  simp only [] at hrd3
  have HR3 := Lib.hid hrd3
  obtain ⟨rfl, hr, hg⟩ := hp
  have Hr3 := Lib.hid hr
  have Hc3 := Lib.hid ((hg.block _ Hs2.out Hne.out).trans Hc2.out)
  have Hs3 := Lib.hid (Nat.lt_of_lt_of_le Hs2.out hg.size)
  have Hg3 := Lib.hid (grown_trans Hg2.out hg)
  clear hr hg hx hrd3
  obtain ⟨W4, hW4⟩ := hide (w3.alloc (.cells #[.int .i64 k, str v, .int .i64 n, .slice none 0 0] 29))
  have hc4 : W4.heap[w.heap.size]? = some (.cells resZero 29 (0, 0)) := by rw [← hW4.out]; exact (hp_past _ _ (by have := Hs3.out; omega)).trans Hc3.out
  have hr4 : Rd W4 b s3 := Hr3.out.kept (by rw [← hW4.out]; exact World.grownBy_alloc w3 _ none) (by simp)
  have hg4 : w.grownBy W4 (some b) := by rw [← hW4.out]; exact grown_trans Hg3.out (World.grownBy_alloc w3 _ _)
  have hq4 : W4.heap[w3.heap.size]? = some (.cells #[.int .i64 k, str v, .int .i64 n, .slice none 0 0] 29 (0, 0)) := by rw [← hW4.out]; exact hp_at _ _ rfl
  have Hst : Hid (KeyStage w W4 b w.heap.size w3.heap.size k v n (.slice none 0 0) [] s3) := ⟨hc4, hq4, hr4, hg4, World.ownsRow_nil _ _ _ _⟩
  have HU := Lib.hid (upTo_rd 32 (by decide) hr4)
  have HBQ : Hid (w.heap.size < w3.heap.size) := Hs3.out
  clear hc4 hr4 hg4 hq4
  go_upto_region 2 with fail
  rw [hW4.out]
  obtain ⟨Q, hQ⟩ := hide w3.heap.size
  obtain ⟨B, hB⟩ := hide w.heap.size
  rw [hQ.out, hB.out] at Hst HBQ
  have HB := hB
  rw [hB.out] at Hbw
  rw [hQ.out, hB.out]
  go_wp2_with fail
  refine HU.out.mono ?_
  intro e w4 hp
  cases hx : rdUpTo 32 s3 with
  | error z =>
    rw [hx] at hp
    obtain rfl : .error z = res := by have hh := HR3.out; rw [hx] at hh; exact hh
    obtain ⟨rfl, hg⟩ := hp
    have Hge := Lib.hid (grown_trans Hst.out.grown hg)
    clear hg hx
    go_wp2_with fail
    exact ⟨rfl, rfl, Hge.out⟩
  | ok p =>
  obtain ⟨m, s4⟩ := p
  rw [hx] at hp
  obtain ⟨rfl, hr, hg⟩ := hp
  have hm32 : m ≤ 32 := (rdUpTo_le hx).1
  have hrd4 := HR3.out
  rw [hx] at hrd4
  simp only [] at hrd4
  have HR4 := Lib.hid hrd4
  have Hs4 : Hid (KeyStage w w4 b B Q k v n (.slice none 0 0) [] s4) := ⟨(hg.block _ (lt_of_block Hst.out.res) (by have := Hbw.out; simp; omega)).trans Hst.out.res, (hg.block _ (lt_of_block Hst.out.loc) (by have := Hbw.out; have := HBQ.out; simp; omega)).trans Hst.out.loc, hr, grown_trans Hst.out.grown hg, World.ownsRow_nil _ _ _ _⟩
  clear hr hg hx hrd4
  go_wp2_with fail
  go_loopw [13] (fun i wr => ∃ j : Nat, ∃ acc : List (List UInt8), ∃ u : List UInt8, ∃ kv : Value, i = .int .i64 j ∧ j ≤ m ∧ Hid (acc.length = j) ∧ Hid (KeyStage w wr b B Q k v n kv acc u) ∧ Hid ((match rdStrs (m - j) acc u with | .error z => .error z | .ok (l, s5) => .ok (⟨k, v, n, l⟩, s5)) = res))
    (fun i _ => m - (intOf i).toNat)
  case atStart => exact ⟨0, [], s4, _, rfl, Nat.zero_le _, rfl, Hs4, HR4⟩
  case round =>
    obtain ⟨j, acc, u, kv, rfl, hj, hl, hst, hm⟩ := hrel
    obtain ⟨ao, cp, rfl⟩ := owns_slice hst.out.own
    by_cases hlt : j < m
    · have hm2 := hm.out
      rw [show m - j = (m - (j + 1)) + 1 from by omega, rdStrs] at hm2
      have hqd : wr.drew.heap[Q]? = some (.cells #[.int .i64 k, str v, .int .i64 n, .slice ao acc.length cp] 29 (0, 0)) := hst.out.loc
      have d3 := cell_n hqd 3 (v := .slice ao acc.length cp) rfl
      have hrdd : Rd wr.drew b u := ⟨hst.out.rd.1, hst.out.rd.2⟩
      have KT : Calls Try.prog 146 #[.pointer (some ⟨b, 0, none⟩), .int .i64 16] wr.drew (Gets b wr.drew vStr (rdText 16 u)) := text_rd 16 (by decide) hrdd
      obtain ⟨i0, hi0, hz0, hz1, hz2⟩ := info_parts info_str
      have Hm2 := Lib.hid hm2
      have KT' := Lib.hid KT
      have hal : acc.length < 32 := by have := hl.out; omega
      clear KT hm2
      go_upto_region 4 with fail
      go_region_law (first
        | (go_simp; go_at_call 146; (with_reducible refine KT'.out.mono ?_); intro e w1 hp; rcases hx : rdText 16 u with z | ⟨x, t⟩
           · (rw [hx] at hp; obtain ⟨rfl, hg⟩ := hp; have hR := Hm2.out; rw [hx] at hR; obtain rfl : .error z = res := hR; exact ⟨rfl, rfl, grown_trans (grown_drew hst.out.grown) hg⟩)
           rw [hx] at hp
           obtain ⟨rfl, hr, hg⟩ := hp
           have hgs := hg.size
           have hql := lt_of_block hst.out.loc
           have Hr1 := Lib.hid hr
           have Hg1 := Lib.hid hg
           have own1 := Lib.hid (hst.out.own.drew.kept hg (Or.inr (own_other hst.out.own (by have := Hbw.out; have := HBQ.out; omega)).symm))
           have hq1 := (hg.block Q (show Q < wr.heap.size from hql) (by have := Hbw.out; have := HBQ.out; simp; omega)).trans hqd
           have c3 := cell_n hq1 3 (v := .slice ao acc.length cp) rfl
           have hqw : Q < w1.heap.size := by have : wr.heap.size ≤ w1.heap.size := hgs; omega
           have Hm3 : Hid ((match rdStrs (m - (j + 1)) (acc ++ [x]) t with | .error z => .error z | .ok (l, s5) => .ok (⟨k, v, n, l⟩, s5)) = res) := by (have hR := Hm2.out; rw [hx] at hR; exact hR)
           clear hr hg hgs hql)
        | (refine step_append_lies _ (by rfl) _ _ _ (by rfl) (Q + 1) 9 i0 _ 1 16 Try.underlying27 hi0 hz0 hz1 hz2 rfl (by omega) (.slice ao acc.length cp) acc.length (acc.map str) (by rfl) (own1.out.alloc _)
            ⟨w1.heap.size, 0, none⟩ 1 1 [str x] (by rfl) (by rfl) (World.news_of_block (cs := #[str x]) (t := 9) (fr := (0, 0)) (heap_alloc_new w1 _)) (by simp [Value.oneCell'])
            (by omega) (by unfold maxLen; omega) (by omega) (by simp; omega) (w1.heap.size + 1) (by simp) ?_
           intro gg cap w2 hown hgrow hat hlt2
           have hps := hst.out.push HB.out Hbw.out HBQ.out Hr1.out Hg1.out hown hgrow
           have c4 := cell_n hps.1 3 (v := .slice ao acc.length cp) rfl
           have f4 := free_n hps.1 3
           have Hst2 := Lib.hid hps.2
           clear hps))
      all_goals
        clear c3 c4 f4 d3 hqd
        go_wp2_with fail
        go_roundw
        case rel => exact ⟨j + 1, acc ++ [x], t, _, by go_num, by omega, by have := hl.out; show _ = _; simp [this], Hst2, Hm3⟩
        case measure => simp [intOf]; omega
    · have hjm : j = m := by omega
      have e1 : .ok (⟨k, v, n, acc⟩, u) = res := by rw [← hm.out, show m - j = 0 from by omega]; rfl
      subst e1
      have Hjm := Lib.hid hjm
      clear hjm
      have c0 := cell_n hst.out.loc 0 (v := .int .i64 k) rfl
      have c1 := cell_n hst.out.loc 1 (v := str v) rfl
      have c2 := cell_n hst.out.loc 2 (v := .int .i64 n) rfl
      have c3 := cell_n hst.out.loc 3 (v := .slice ao acc.length cp) rfl
      have r0 := cell_n hst.out.res 0 (v := .int .i64 0) rfl
      have r1 := cell_n hst.out.res 1 (v := str []) rfl
      have r2 := cell_n hst.out.res 2 (v := .int .i64 0) rfl
      have r3 := cell_n hst.out.res 3 (v := .slice none 0 0) rfl
      have f0 := free_n hst.out.res 0
      have f1 := free_n hst.out.res 1
      have f2 := free_n hst.out.res 2
      have f3 := free_n hst.out.res 3
      go_wp2_with fail
      change bodyPost _ _ _ Exit.ret _ (setAll wr B [.int .i64 k, str v, .int .i64 n, .slice ao acc.length cp])
      have hB2 := setAll_at hst.out.res [.int .i64 k, str v, .int .i64 n, .slice ao acc.length cp] rfl
      have hr2 : Rd (setAll wr B [.int .i64 k, str v, .int .i64 n, .slice ao acc.length cp]) b u := ⟨setAll_other hst.out.rd.1 (by have := Hbw.out; omega) _, hst.out.rd.2⟩
      have hg2 := setAll_grown hst.out.grown (b := B) (by have := HB.out; omega) [.int .i64 k, str v, .int .i64 n, .slice ao acc.length cp]
      have ho2 := own_up (own_base hst.out.own (base' := B + 1) (by have := HBQ.out; omega)) (Up.setAll (B + 1) wr (Nat.lt_succ_self B) [.int .i64 k, str v, .int .i64 n, .slice ao acc.length cp]) (Nat.le_refl _)
      generalize setAll wr B [.int .i64 k, str v, .int .i64 n, .slice ao acc.length cp] = W9 at hB2 hr2 hg2 ho2 ⊢
      clear c0 c1 c2 c3 r0 r1 r2 r3 f0 f1 f2 f3
      have c0 := cell_n hB2 0 (v := .int .i64 k) rfl
      have c1 := cell_n hB2 1 (v := str v) rfl
      have c2 := cell_n hB2 2 (v := .int .i64 n) rfl
      have c3 := cell_n hB2 3 (v := .slice ao acc.length cp) rfl
      refine bodyPost_ret (by simp [results, Try.results152, go_sem, c0, c1, c2, c3]; rfl) rfl ?_
      exact ⟨_, rfl, own_base ho2 (by have := HB.out; omega), hr2, hg2⟩
end Go.Proofs.Ytidiodlemjeelaa

namespace Go.Proofs.Ytidiodlemjeelaa
open Go.RowKit Wm Mm
set_option linter.unusedVariables false

/-- blocks from S on, but for x, are as they were -/
def UpX (S : Nat) (x : Option Nat) (w w' : World) : Prop := ∀ k, S ≤ k → k < w.heap.size → some k ≠ x → w'.heap[k]? = w.heap[k]?
theorem UpX.of {S : Nat} {w w' : World} (h : Up S w w') (x : Option Nat) : UpX S x w w' := fun k h1 h2 _ => h k h1 h2
theorem UpX.trans {S : Nat} {x : Option Nat} {a b c : World} (h : UpX S x a b) (k : UpX S x b c) (hs : a.heap.size ≤ b.heap.size) : UpX S x a c := fun i h1 h2 h3 => (k i h1 (by omega) h3).trans (h i h1 h2 h3)
theorem UpX.ofGrown {S : Nat} {x : Option Nat} {w w' : World} (h : w.grownBy w' x) : UpX S x w w' := fun k _ h2 h3 => h.block k h2 h3

/-- v is a slice of records of so many cells, in a block from S on that is not x -/
def RecsF {α : Type} (S : Nat) (x : Option Nat) (size : Nat) (R : World → List Value → α → Prop) (w : World) (v : Value) (l : List α) : Prop :=
  ∃ ao cap, v = .slice ao l.length cap ∧ (l ≠ [] → ∃ b off, ao = some ⟨b, off, none⟩ ∧ S ≤ b ∧ b < w.heap.size ∧ some b ≠ x ∧ ∀ j y, l[j]? = some y → ∃ vs : List Value, vs.length = size ∧ R w vs y ∧ ∀ i u, vs[i]? = some u → w.cell? ⟨b, off + j * size + i, none⟩ = some u) ∧ l.length ≤ 9223372036854775807
theorem RecsF.recs {α : Type} {S size : Nat} {x : Option Nat} {R R' : World → List Value → α → Prop} {w : World} {v : Value} {l : List α} (hR : ∀ vs y, R w vs y → R' w vs y) (h : RecsF S x size R w v l) : RecsP size R' w v l := by
  obtain ⟨ao, cap, rfl, hc, hm⟩ := h
  refine ⟨ao, cap, rfl, fun hne => ?_, hm⟩
  obtain ⟨b, off, rfl, _, _, _, hj⟩ := hc hne
  refine ⟨b, off, rfl, fun j y hy => ?_⟩
  obtain ⟨vs, h1, h2, h3⟩ := hj j y hy
  exact ⟨vs, h1, hR _ _ h2, h3⟩
theorem RecsF.upx {α : Type} {S S' size : Nat} {x x' z : Option Nat} {R R' : World → List Value → α → Prop} {w w' : World} {v : Value} {l : List α} (h : RecsF S x size R w v l) (hR : ∀ vs y, R w vs y → R' w' vs y) (hu : UpX S' x' w w') (hs : S' ≤ S)
    (hx : ∀ b, S ≤ b → b < w.heap.size → some b ≠ x → some b ≠ x' ∧ some b ≠ z) : RecsF S z size R' w' v l := by
  obtain ⟨ao, cap, rfl, hc, hm⟩ := h
  refine ⟨ao, cap, rfl, fun hne => ?_, hm⟩
  obtain ⟨b, off, rfl, hb, hl, hbx, hj⟩ := hc hne
  obtain ⟨hx1, hx2⟩ := hx b hb hl hbx
  have e1 := hu b (by omega) hl hx1
  have hl' : b < w'.heap.size := by
    rcases Nat.lt_or_ge b w'.heap.size with h | h
    · exact h
    · rw [Array.getElem?_eq_none h, Array.getElem?_eq_getElem hl] at e1; cases e1
  refine ⟨b, off, rfl, hb, hl', hx2, fun j y hy => ?_⟩
  obtain ⟨vs, h1, h2, h3⟩ := hj j y hy
  refine ⟨vs, h1, hR _ _ h2, fun i u hu => ?_⟩
  rw [← h3 i u hu]
  simp only [World.cell?, e1]
theorem RecsF.base {α : Type} {S S' size : Nat} {x : Option Nat} {R R' : World → List Value → α → Prop} {w : World} {v : Value} {l : List α} (h : RecsF S x size R w v l) (hR : ∀ vs y, R w vs y → R' w vs y) (hs : S' ≤ S) : RecsF S' x size R' w v l := by
  obtain ⟨ao, cap, rfl, hc, hm⟩ := h
  refine ⟨ao, cap, rfl, fun hne => ?_, hm⟩
  obtain ⟨b, off, rfl, hb, hl, hbx, hj⟩ := hc hne
  refine ⟨b, off, rfl, by omega, hl, hbx, fun j y hy => ?_⟩
  obtain ⟨vs, h1, h2, h3⟩ := hj j y hy
  exact ⟨vs, h1, hR _ _ h2, h3⟩
theorem RecsF.nil {α : Type} (S size : Nat) (x : Option Nat) (R : World → List Value → α → Prop) (w : World) : RecsF S x size R w (.slice none 0 0) [] := ⟨none, 0, rfl, fun h => absurd rfl h, Nat.zero_le _⟩
theorem RecsF.slice {α : Type} {S size : Nat} {x : Option Nat} {R : World → List Value → α → Prop} {w : World} {v : Value} {l : List α} (h : RecsF S x size R w v l) : ∃ ao cap, v = .slice ao l.length cap := by
  obtain ⟨ao, cap, rfl, _, _⟩ := h
  exact ⟨ao, cap, rfl⟩
theorem flat_at {β : Type} {size : Nat} (f : β → List Value) (hf : ∀ y, (f y).length = size) : ∀ (l : List β) (j : Nat) (y : β) (i : Nat) (u : Value), l[j]? = some y → (f y)[i]? = some u → (l.flatMap f)[j * size + i]? = some u
  | [], j, y, i, u, h, _ => by simp at h
  | x :: l, 0, y, i, u, h, hu => by
    simp at h; subst h
    have hi : i < (f x).length := by
      rcases Nat.lt_or_ge i (f x).length with h | h
      · exact h
      · rw [List.getElem?_eq_none h] at hu; cases hu
    rw [List.flatMap_cons, Nat.zero_mul, Nat.zero_add, List.getElem?_append_left hi]; exact hu
  | x :: l, j + 1, y, i, u, h, hu => by
    have h' : l[j]? = some y := by simpa using h
    have e : (j + 1) * size + i = (f x).length + (j * size + i) := by rw [hf, Nat.succ_mul]; omega
    rw [List.flatMap_cons, e, List.getElem?_append_right (by omega), Nat.add_sub_cancel_left]
    exact flat_at f hf l j y i u h' hu
theorem RecsF.of_own {α β : Type} {S size : Nat} {e : TypeId} {w : World} {v : Value} (x : Option Nat) (R : World → List Value → α → Prop) (q : List β) (f : β → α) (row : β → List Value) (hrow : ∀ p, (row p).length = size)
    (h : w.ownsRow S e size v q.length (q.flatMap row)) (hR : ∀ p ∈ q, R w (row p) (f p)) (hx : ∀ g, v.ownBlock = some g → some g ≠ x) : RecsF S x size R w v (q.map f) := by
  rcases h.2 with ⟨rfl, h0⟩ | ⟨g, cap, cur, rfl, hb, hg, hn, hc, hs, ht⟩
  · obtain rfl : q = [] := List.eq_nil_of_length_eq_zero h0
    exact RecsF.nil _ _ _ _ _
  · refine ⟨_, _, by rw [List.length_map], fun hne => ⟨g, 0, rfl, hb, lt_of_block hg, hx g (by simp [Value.ownBlock]), fun j y hj => ?_⟩, by rw [List.length_map]; exact Nat.le_trans hn hc⟩
    rw [List.getElem?_map] at hj
    cases hq : q[j]? with
    | none => rw [hq] at hj; cases hj
    | some p =>
      rw [hq] at hj
      simp at hj; subst hj
      refine ⟨row p, hrow p, hR p (List.mem_of_getElem? hq), fun i u hu => ?_⟩
      have := h.cells (g := g) rfl (j * size + i) u (flat_at row hrow q j p i u hq hu)
      have hadd : (⟨g, 0, none⟩ : Addr).add (j * size + i) = ⟨g, 0 + j * size + i, none⟩ := by unfold Addr.add; split <;> simp_all
      rwa [hadd] at this

abbrev StrF (S : Nat) (x : Option Nat) (w : World) (v : Value) (l : List (List UInt8)) : Prop := RecsF S x 1 (fun _ vs s => vs = [str s]) w v l
theorem StrF.strs {S : Nat} {x : Option Nat} {w : World} {v : Value} {l : List (List UInt8)} (h : StrF S x w v l) : Strs w v l := by
  obtain ⟨ao, cap, rfl, hc, hm⟩ := h
  refine ⟨ao, cap, rfl, fun hne => ?_, hm⟩
  obtain ⟨b, off, rfl, _, _, _, hj⟩ := hc hne
  refine ⟨b, off, rfl, fun j y hy => ?_⟩
  obtain ⟨vs, h1, rfl, h3⟩ := hj j y hy
  have := h3 0 _ rfl
  simpa using this
theorem flat_str : ∀ l : List (List UInt8), l.flatMap (fun s => [str s]) = l.map str
  | [] => rfl
  | x :: l => by rw [List.flatMap_cons, flat_str l]; rfl
theorem StrF.of_own {S : Nat} {e : TypeId} {w : World} {v : Value} {l : List (List UInt8)} (x : Option Nat) (h : w.ownsRow S e 1 v l.length (l.map str)) (hx : ∀ g, v.ownBlock = some g → some g ≠ x) : StrF S x w v l := by
  have := RecsF.of_own (size := 1) (e := e) x (fun _ vs s => vs = [str s]) l id (fun s => [str s]) (fun _ => rfl) (by rw [flat_str]; exact h) (fun _ _ => rfl) hx
  rwa [List.map_id] at this
abbrev PairF (S : Nat) (x : Option Nat) (w : World) (v : Value) (l : List PairP) : Prop := RecsF S x 3 (fun _ vs p => vs = rowPair p) w v l
theorem PairF.of_own {S : Nat} {e : TypeId} {w : World} {v : Value} {l : List PairP} (x : Option Nat) (h : w.ownsRow S e 3 v l.length (l.flatMap rowPair)) (hx : ∀ g, v.ownBlock = some g → some g ≠ x) : PairF S x w v l := by
  have := RecsF.of_own (size := 3) (e := e) x (fun _ vs p => vs = rowPair p) l id rowPair (fun _ => rfl) h (fun _ _ => rfl) hx
  rwa [List.map_id] at this
abbrev SessF (S : Nat) (x : Option Nat) (w : World) (v : Value) (l : List SessP) : Prop := RecsF S x 7 (fun w vs s => ∃ kv, vs = rowSess s kv ∧ StrF S x w kv s.keys) w v l

/-- two slices in blocks from S on are this table -/
structure TabF (S : Nat) (w : World) (vp vs : Value) (t : Tab) : Prop where
  p : PairF S none w vp t.pairs
  s : SessF S none w vs t.sess
theorem TabF.table2 {S : Nat} {w : World} {vp vs : Value} {t : Tab} (h : TabF S w vp vs t) : Table2 w vp vs t :=
  ⟨h.p.recs (fun _ _ h => h), h.s.recs (fun _ _ ⟨kv, h1, h2⟩ => ⟨kv, h1, h2.strs⟩)⟩
theorem TabF.up {S S' : Nat} {w w' : World} {vp vs : Value} {t : Tab} (h : TabF S w vp vs t) (hu : Up S' w w') (hs : S' ≤ S) : TabF S w' vp vs t :=
  ⟨h.p.upx (fun _ _ h => h) (UpX.of hu none) hs (fun _ _ _ _ => ⟨by simp, by simp⟩),
   h.s.upx (fun _ _ ⟨kv, h1, h2⟩ => ⟨kv, h1, h2.upx (fun _ _ h => h) (UpX.of hu none) hs (fun _ _ _ _ => ⟨by simp, by simp⟩)⟩) (UpX.of hu none) hs (fun _ _ _ _ => ⟨by simp, by simp⟩)⟩
theorem TabF.base {S S' : Nat} {w : World} {vp vs : Value} {t : Tab} (h : TabF S w vp vs t) (hs : S' ≤ S) : TabF S' w vp vs t :=
  ⟨RecsF.base h.p (fun _ _ h => h) hs, RecsF.base h.s (fun _ _ ⟨kv, h1, h2⟩ => ⟨kv, h1, RecsF.base h2 (fun _ _ h => h) hs⟩) hs⟩
theorem TabF.nil (S : Nat) (w : World) (tm : Int) : TabF S w (.slice none 0 0) (.slice none 0 0) ⟨[], [], tm⟩ := ⟨RecsF.nil _ _ _ _ _, RecsF.nil _ _ _ _ _⟩

/-- an own row of sessions, whose keys lie in other blocks -/
def SessO (S : Nat) (w : World) (v : Value) (l : List SessP) : Prop :=
  ∃ q : List (SessP × Value), q.map (·.1) = l ∧ w.ownsRow S 136 7 v q.length (q.flatMap fun p => rowSess p.1 p.2) ∧ ∀ p ∈ q, StrF S v.ownBlock w p.2 p.1.keys
theorem SessO.nil (S : Nat) (w : World) : SessO S w (.slice none 0 0) [] := ⟨[], rfl, World.ownsRow_nil _ _ _ _, fun _ h => by cases h⟩
theorem SessO.sessF {S : Nat} {w : World} {v : Value} {l : List SessP} (h : SessO S w v l) : SessF S none w v l := by
  obtain ⟨q, rfl, h1, h2⟩ := h
  exact RecsF.of_own (size := 7) none _ q (·.1) (fun p => rowSess p.1 p.2) (fun _ => rfl) h1 (fun p hp => ⟨p.2, rfl, (h2 p hp).upx (fun _ _ h => h) (UpX.of (Up.refl S w) none) (Nat.le_refl _) (fun _ _ _ _ => ⟨by simp, by simp⟩)⟩) (fun _ _ => by simp)
/-- the same row, in a world in which the reader alone has moved -/
theorem SessO.up {S : Nat} {w w' : World} {v : Value} {l : List SessP} (h : SessO S w v l) (hu : Up S w w') : SessO S w' v l := by
  obtain ⟨q, rfl, h1, h2⟩ := h
  exact ⟨q, rfl, own_up h1 hu (Nat.le_refl _), fun p hp => (h2 p hp).upx (fun _ _ h => h) (UpX.of hu none) (Nat.le_refl _) (fun _ _ _ hx => ⟨by simp, hx⟩)⟩
/-- one more session: its row was appended -/
theorem SessO.push {S H : Nat} {w w2 : World} {v v' : Value} {l : List SessP} {q : List (SessP × Value)} {s : SessP} {kv : Value} (hq : q.map (·.1) = l) (hk : ∀ p ∈ q, StrF S v.ownBlock w p.2 p.1.keys) (hs : StrF S v.ownBlock w kv s.keys)
    (hu : UpX S v.ownBlock w w2) (hv : ∃ g, v'.ownBlock = some g ∧ (v.ownBlock = some g ∨ w.heap.size ≤ g)) (hown : w2.ownsRow S 136 7 v' (q.length + 1) ((q.flatMap fun p => rowSess p.1 p.2) ++ rowSess s kv)) : SessO S w2 v' (l ++ [s]) := by
  obtain ⟨g, hg, hc⟩ := hv
  have hx : ∀ b, S ≤ b → b < w.heap.size → some b ≠ v.ownBlock → some b ≠ v.ownBlock ∧ some b ≠ v'.ownBlock := fun b _ hl hb => ⟨hb, fun e => by
    rw [hg] at e
    rcases hc with h | h
    · exact hb (e.trans h.symm)
    · injection e with e; omega⟩
  refine ⟨q ++ [(s, kv)], by rw [List.map_append, hq]; rfl, ?_, fun p hp => ?_⟩
  · rw [List.flatMap_append]; simpa using hown
  · rcases List.mem_append.1 hp with h | h
    · exact (hk p h).upx (fun _ _ h => h) hu (Nat.le_refl _) hx
    · obtain rfl := List.mem_singleton.1 h
      exact hs.upx (fun _ _ h => h) hu (Nat.le_refl _) hx
end Go.Proofs.Ytidiodlemjeelaa
