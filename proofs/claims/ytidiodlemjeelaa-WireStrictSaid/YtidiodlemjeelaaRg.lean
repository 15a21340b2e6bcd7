/-
  Reading tables, the panicking reader's way.
-/
import Derived.Test.YtidiodlemjeelaaTg
namespace Go.Proofs.Ytidiodlemjeelaa
open Go.RowKit Wm Mm
set_option linter.unusedVariables false

theorem info_pair : (Try.prog.info? 48).map (fun i => (i.zero, i.size, i.bytes)) = some (some (.agg #[.string ByteArray.empty, .string ByteArray.empty, .int .i64 0]), 3, 40) := by kernel_rfl
theorem info_sess : (Try.prog.info? 136).map (fun i => (i.zero, i.size, i.bytes)) = some (some (.agg #[.int .i64 0, .int .i64 0, .int .i64 0, .string ByteArray.empty, .int .i64 0, .slice none 0 0, .int .i64 0]), 7, 80) := by kernel_rfl
def rdPairs : Nat → List PairP → List UInt8 → Res (List PairP)
  | 0, acc, s => .ok (acc, s)
  | k + 1, acc, s =>
    match rdText 16 s with
    | .error z => .error z
    | .ok (x, s1) => match rdText 64 s1 with
      | .error z => .error z
      | .ok (y, s2) => match rdNum s2 with
        | .error z => .error z
        | .ok (n, s3) => rdPairs k (acc ++ [⟨x, y, n⟩]) s3
def rdSess : Nat → List SessP → List UInt8 → Res (List SessP)
  | 0, acc, s => .ok (acc, s)
  | k + 1, acc, s =>
    match rdNum s with
    | .error z => .error z
    | .ok (x, s1) => match rdNum s1 with
      | .error z => .error z
      | .ok (y, s2) => match rdNum s2 with
        | .error z => .error z
        | .ok (n, s3) => match rdRes s3 with
          | .error z => .error z
          | .ok (r, s4) => rdSess k (acc ++ [⟨x, y, r.kind, r.val, r.ver, r.keys, n⟩]) s4
def rdTabE (tm : Nat) (ps : List PairP) (ss : List SessP) (s : List UInt8) : Res Tab := if tabB ⟨ps, ss, tm⟩ = true then .ok (⟨ps, ss, tm⟩, s) else .error 6
def rdTabS (tm : Nat) (ps : List PairP) (s : List UInt8) : Res Tab :=
  match rdUpTo 8 s with
  | .error z => .error z
  | .ok (m, s1) => match rdSess m [] s1 with
    | .error z => .error z
    | .ok (ss, s2) => rdTabE tm ps ss s2
def rdTab (s : List UInt8) : Res Tab :=
  match rdNum s with
  | .error z => .error z
  | .ok (tm, s1) => match rdUpTo 32 s1 with
    | .error z => .error z
    | .ok (m, s2) => match rdPairs m [] s2 with
      | .error z => .error z
      | .ok (ps, s3) => rdTabS tm ps s3
def GetsTab (S b : Nat) (w : World) (res : Res Tab) (e : Ending) (w' : World) : Prop :=
  match res with
  | .ok (q, t) => ∃ vp vs, e = .returned (.agg #[vp, vs, .int .i64 q.time]) ∧ TabF S w' vp vs q ∧ Rd w' b t ∧ w.grownBy w' (some b)
  | .error z => e = stopped z ∧ w.grownBy w' (some b)

/-- what stands while a table is read: the result's cells, the local's cells, the reader -/
structure LocSt (w W : World) (b B Q : Nat) (T : TypeId) (zero loc : List Value) (u : List UInt8) : Prop where
  res : W.heap[B]? = some (.cells zero.toArray T (0, 0))
  loc : W.heap[Q]? = some (.cells loc.toArray T (0, 0))
  rd : Rd W b u
  grown : w.grownBy W (some b)
theorem LocSt.push {w wr w1 w2 : World} {b B Q fi n size : Nat} {e T : TypeId} {zero loc xs : List Value} {u t : List UInt8} {v : Value} {o : Obj} (h : LocSt w wr b B Q T zero loc u) (hB : w.heap.size = B) (hb : b < B) (hQ : B < Q)
    (hr : Rd w1 b t) (hg : wr.drew.grownBy w1 (some b)) (hown : wr.ownsRow (Q + 1) e size v n xs) (hgrow : (w1.alloc o).grownBy w2 v.ownBlock) (v' : Value) :
    w2.heap[Q]? = some (.cells loc.toArray T (0, 0)) ∧ LocSt w (w2.setCell ⟨Q, fi, none⟩ v') b B Q T zero (loc.set fi v') t ∧ UpX (Q + 1) v.ownBlock w1 (w2.setCell ⟨Q, fi, none⟩ v') := by
  have hsz := hg.size
  have hQl : Q < wr.heap.size := lt_of_block h.loc
  have hsz' : wr.heap.size ≤ w1.heap.size := hsz
  have own1 : w1.ownsRow (Q + 1) e size v n xs := hown.drew.kept hg (Or.inr (own_other hown (by omega)).symm)
  have keep : ∀ k, k ≠ b → k < Q + 1 → w2.heap[k]? = wr.heap[k]? := fun k hk hl => by
    have e1 := hg.block k (by show k < wr.heap.size; omega) (by simpa using hk)
    have e2 : (w1.alloc o).heap[k]? = w1.heap[k]? := hp_past _ _ (by omega)
    have e3 := hgrow.block k (by simp only [World.size_alloc]; omega) (own_other own1 hl)
    exact e3.trans (e2.trans e1)
  have hq2 := (keep Q (by omega) (by omega)).trans h.loc
  have hr2 : Rd w2 b t := hr.kept (w' := w2) (row := v.ownBlock) (grown_trans (World.grownBy_alloc w1 o _) hgrow) (own_other own1 (by omega))
  have own2 : (w1.alloc o).ownsRow (Q + 1) e size v n xs := own1.alloc _
  have g1 : w.grownBy (w1.alloc o) (some b) := grown_trans (grown_trans (grown_drew h.grown) hg) (World.grownBy_alloc w1 o _)
  refine ⟨hq2, ⟨?_, ?_, ?_, ?_⟩, ?_⟩
  · exact hp_set_other ((keep B (by omega) (by omega)).trans h.res) (by simp; omega)
  · rw [heap_setCell, if_pos rfl, hq2]; simp [storeIn]
  · exact ⟨hp_set_other hr2.1 (by simp; omega), hr2.2⟩
  · exact grown_fresh' (grown_own g1 own2 (by omega) hgrow) (by simp; omega) _
  · intro k h1 h2 h3
    rw [heap_setCell, if_neg (by simp; omega)]
    exact (hgrow.block k (by simp only [World.size_alloc]; omega) h3).trans (hp_past _ _ (by omega))
theorem LocSt.setOwn {w2 : World} {Q n size : Nat} {e : TypeId} {xs : List Value} {v : Value} (h : w2.ownsRow (Q + 1) e size v n xs) (fi : Nat) (v' : Value) : (w2.setCell ⟨Q, fi, none⟩ v').ownsRow (Q + 1) e size v n xs :=
  own_up h (Up.setCell (Q + 1) w2 (a := ⟨Q, fi, none⟩) (by simp) _) (Nat.le_refl _)
theorem LocSt.read {w wr w1 : World} {b B Q : Nat} {T : TypeId} {zero loc : List Value} {u t : List UInt8} (h : LocSt w wr b B Q T zero loc u) (hb : b < B) (hQ : B < Q) (hr : Rd w1 b t) (hg : wr.grownBy w1 (some b)) : LocSt w w1 b B Q T zero loc t :=
  ⟨(hg.block B (lt_of_block h.res) (by simp; omega)).trans h.res, (hg.block Q (lt_of_block h.loc) (by simp; omega)).trans h.loc, hr, grown_trans h.grown hg⟩
abbrev tabZero : List Value := [.slice none 0 0, .slice none 0 0, .int .i64 0]
theorem own_new {S H : Nat} {w : World} {e : TypeId} {size n : Nat} {v : Value} {xs : List Value} {x : Option Nat} (h : w.ownsRow S e size v n xs) (hS : H ≤ S) (hx : ∀ g, x = some g → g < H) : ∀ g, v.ownBlock = some g → some g ≠ x :=
  fun g hg hgx => by have := (h.lt g hg).1; have := hx g hgx.symm; omega
theorem sess_push {w wr w4 w5 : World} {b B Q gg : Nat} {tm : Value} {zero : List Value} {u t : List UInt8} {vp v v' kv : Value} {o : Obj} {q : List (SessP × Value)} {acc : List SessP} {ps : List PairP} {s : SessP} (h : LocSt w wr b B Q 25 zero [vp, v, tm] u) (hB : w.heap.size = B) (hb : b < B) (hQ : B < Q)
    (hr : Rd w4 b t) (hg : wr.drew.grownBy w4 (some b)) (hq : q.map (·.1) = acc) (hown : wr.ownsRow (Q + 1) 136 7 v q.length (q.flatMap fun p => rowSess p.1 p.2)) (hk : ∀ p ∈ q, StrF (Q + 1) v.ownBlock wr p.2 p.1.keys) (hp : PairF (Q + 1) v.ownBlock wr vp ps)
    (hs : StrF (Q + 1) v.ownBlock w4 kv s.keys) (hgrow : (w4.alloc o).grownBy w5 v.ownBlock) (hown5 : w5.ownsRow (Q + 1) 136 7 v' (q.length + 1) ((q.flatMap fun p => rowSess p.1 p.2) ++ rowSess s kv)) (hv : v'.ownBlock = some gg) (hat : v.ownBlock = some gg ∨ gg = w4.heap.size + 1) :
    w5.heap[Q]? = some (.cells #[vp, v, tm] 25 (0, 0)) ∧ LocSt w (w5.setCell ⟨Q, 1, none⟩ v') b B Q 25 zero [vp, v', tm] t ∧ SessO (Q + 1) (w5.setCell ⟨Q, 1, none⟩ v') v' (acc ++ [s]) ∧ PairF (Q + 1) v'.ownBlock (w5.setCell ⟨Q, 1, none⟩ v') vp ps := by
  obtain ⟨h1, h2, h3⟩ := LocSt.push (fi := 1) h hB hb hQ hr hg hown hgrow v'
  have hup : Up (Q + 1) wr w4 := Up.ofGrown (w := wr.drew) hg (by omega)
  have hc : v.ownBlock = some gg ∨ w4.heap.size ≤ gg := hat.imp id (fun e => by omega)
  refine ⟨h1, h2, SessO.push (q := q) (H := 0) hq (fun p hp => (hk p hp).upx (fun _ _ h => h) (UpX.of hup none) (Nat.le_refl _) (fun _ _ _ hx => ⟨by simp, hx⟩)) hs h3 ⟨gg, hv, hc⟩ (LocSt.setOwn hown5 1 v'), ?_⟩
  have hp4 : PairF (Q + 1) v.ownBlock w4 vp ps := hp.upx (fun _ _ h => h) (UpX.of hup none) (Nat.le_refl _) (fun _ _ _ hx => ⟨by simp, hx⟩)
  exact hp4.upx (fun _ _ h => h) h3 (Nat.le_refl _) (fun b _ hl hb => ⟨hb, fun e => by
    rw [hv] at e
    rcases hc with h | h
    · exact hb (e.trans h.symm)
    · injection e with e; omega⟩)

set_option maxHeartbeats 8000000 in
set_option maxRecDepth 100000 in
theorem table_rd {b : Nat} {s : List UInt8} {w : World} (h : Rd w b s) :
    Calls Try.prog 151 #[.pointer (some ⟨b, 0, none⟩)] w (GetsTab w.heap.size b w (rdTab s)) := by
  obtain ⟨res, HR⟩ := hide (rdTab s)
  rw [HR.out]
  have hbw : b < w.heap.size := lt_of_block h.1
  obtain ⟨w0, hW⟩ := hide (w.alloc (.cells tabZero.toArray 25))
  have hc : w0.heap[w.heap.size]? = some (.cells tabZero.toArray 25 (0, 0)) := by rw [← hW.out]; exact hp_at _ _ rfl
  have hg : w.grownBy w0 (some b) := by rw [← hW.out]; exact World.grownBy_alloc w _ _
  have hr : Rd w0 b s := h.kept (by rw [← hW.out]; exact World.grownBy_alloc w _ none) (by simp)
  have Hc0 := Lib.hid hc
  have Hg0 := Lib.hid hg
  have Hr0 := Lib.hid hr
  have Hne : Hid (some w.heap.size ≠ some b) := by show _ ≠ _; simp; omega
  have Hs0 : Hid (w.heap.size < w0.heap.size) := lt_of_block hc
  have Hbw := Lib.hid hbw
  have hrd0 : rdTab s = res := HR.out
  unfold rdTab at hrd0
  have HR0 := Lib.hid hrd0
  clear hc hg hr h hbw hrd0
  go_enter Try.func151, Try.ntmps151
  go_wp2_with fail
  rw [hW.out]
  refine (number_rd Hr0.out).mono ?_
  intro e w1 hp
  cases hx : rdNum s with
  | error z =>
    rw [hx] at hp
    obtain rfl : .error z = res := by have hh := HR0.out; rw [hx] at hh; exact hh
    obtain ⟨rfl, hg⟩ := hp
    have Hge := Lib.hid (grown_trans Hg0.out hg)
    clear hg hx
    go_wp2_with fail
    exact ⟨rfl, rfl, Hge.out⟩
  | ok p =>
  obtain ⟨tm, s1⟩ := p
  rw [hx] at hp
  have hrd1 := HR0.out
  rw [hx] at hrd1
  simp only [] at hrd1
  have HR1 := Lib.hid hrd1
  obtain ⟨rfl, hr, hg⟩ := hp
  have Hr1 := Lib.hid hr
  have Hc1 := Lib.hid ((hg.block _ Hs0.out Hne.out).trans Hc0.out)
  have Hs1 := Lib.hid (Nat.lt_of_lt_of_le Hs0.out hg.size)
  have Hg1 := Lib.hid (grown_trans Hg0.out hg)
  clear hr hg hx hrd1
  obtain ⟨W4, hW4⟩ := hide (w1.alloc (.cells #[.slice none 0 0, .slice none 0 0, .int .i64 tm] 25))
  have hc4 : W4.heap[w.heap.size]? = some (.cells tabZero.toArray 25 (0, 0)) := by rw [← hW4.out]; exact (hp_past _ _ (by have := Hs1.out; omega)).trans Hc1.out
  have hr4 : Rd W4 b s1 := Hr1.out.kept (by rw [← hW4.out]; exact World.grownBy_alloc w1 _ none) (by simp)
  have hg4 : w.grownBy W4 (some b) := by rw [← hW4.out]; exact grown_trans Hg1.out (World.grownBy_alloc w1 _ _)
  have hq4 : W4.heap[w1.heap.size]? = some (.cells #[.slice none 0 0, .slice none 0 0, .int .i64 tm] 25 (0, 0)) := by rw [← hW4.out]; exact hp_at _ _ rfl
  have Hst : Hid (LocSt w W4 b w.heap.size w1.heap.size 25 tabZero [.slice none 0 0, .slice none 0 0, .int .i64 tm] s1) := ⟨hc4, hq4, hr4, hg4⟩
  have HU := Lib.hid (upTo_rd 32 (by decide) hr4)
  have HBQ : Hid (w.heap.size < w1.heap.size) := Hs1.out
  clear hc4 hr4 hg4 hq4
  go_upto_region 2 with fail
  rw [hW4.out]
  obtain ⟨Q, hQ⟩ := hide w1.heap.size
  obtain ⟨B, hB⟩ := hide w.heap.size
  rw [hQ.out, hB.out] at Hst HBQ
  have HB := hB
  rw [hB.out] at Hbw
  rw [hQ.out, hB.out]
  go_wp2_with fail
  refine HU.out.mono ?_
  intro e w4 hp
  cases hx : rdUpTo 32 s1 with
  | error z =>
    rw [hx] at hp
    obtain rfl : .error z = res := by have hh := HR1.out; rw [hx] at hh; exact hh
    obtain ⟨rfl, hg⟩ := hp
    have Hge := Lib.hid (grown_trans Hst.out.grown hg)
    clear hg hx
    go_wp2_with fail
    exact ⟨rfl, rfl, Hge.out⟩
  | ok p =>
  obtain ⟨m, s2⟩ := p
  rw [hx] at hp
  obtain ⟨rfl, hr, hg⟩ := hp
  have hm32 : m ≤ 32 := (rdUpTo_le hx).1
  have hrd4 := HR1.out
  rw [hx] at hrd4
  simp only [] at hrd4
  have HR4 := Lib.hid hrd4
  have Hs4 := Lib.hid (Hst.out.read Hbw.out HBQ.out hr hg)
  clear hr hg hx hrd4
  go_wp2_with fail
  go_loopw [9] (fun i wr => ∃ j : Nat, ∃ acc : List PairP, ∃ u : List UInt8, ∃ vp : Value, i = .int .i64 j ∧ j ≤ m ∧ Hid (acc.length = j) ∧ Hid (LocSt w wr b B Q 25 tabZero [vp, .slice none 0 0, .int .i64 tm] u) ∧ Hid (wr.ownsRow (Q + 1) 48 3 vp acc.length (acc.flatMap rowPair)) ∧ Hid ((match rdPairs (m - j) acc u with | .error z => .error z | .ok (ps, s3) => rdTabS tm ps s3) = res))
    (fun i _ => m - (intOf i).toNat)
  case atStart => exact ⟨0, [], s2, _, rfl, Nat.zero_le _, rfl, Hs4, World.ownsRow_nil _ _ _ _, HR4⟩
  case round =>
    obtain ⟨j, acc, u, vp, rfl, hj, hl, hst, hown, hm⟩ := hrel
    obtain ⟨ao, cp, rfl⟩ := owns_slice hown.out
    by_cases hlt : j < m
    · have hm2 := hm.out
      rw [show m - j = (m - (j + 1)) + 1 from by omega, rdPairs] at hm2
      have hqd : wr.drew.heap[Q]? = some (.cells #[.slice ao acc.length cp, .slice none 0 0, .int .i64 tm] 25 (0, 0)) := hst.out.loc
      have d0 := cell_n hqd 0 (v := .slice ao acc.length cp) rfl
      have hrdd : Rd wr.drew b u := ⟨hst.out.rd.1, hst.out.rd.2⟩
      have KT : Calls Try.prog 146 #[.pointer (some ⟨b, 0, none⟩), .int .i64 16] wr.drew (Gets b wr.drew vStr (rdText 16 u)) := text_rd 16 (by decide) hrdd
      obtain ⟨i0, hi0, hz0, hz1, hz2⟩ := info_parts info_pair
      have Hm2 := Lib.hid hm2
      have KT' := Lib.hid KT
      have hal : acc.length < 32 := by have := hl.out; omega
      have Hql : Hid (Q < wr.heap.size) := lt_of_block hst.out.loc
      have Hqb : Hid (some Q ≠ some b) := by show _ ≠ _; have := Hbw.out; have := HBQ.out; simp; omega
      clear KT hm2
      go_upto_region 4 with fail
      go_region_law (first
        | (go_simp; go_at_call 146; (with_reducible refine KT'.out.mono ?_); intro e w1 hp; rcases hx : rdText 16 u with z | ⟨x, t1⟩
           · (rw [hx] at hp; obtain ⟨rfl, hg⟩ := hp; have hR := Hm2.out; rw [hx] at hR; obtain rfl : .error z = res := hR; exact ⟨rfl, rfl, grown_trans (grown_drew hst.out.grown) hg⟩)
           rw [hx] at hp
           obtain ⟨rfl, hr, hg⟩ := hp
           have Hga := Lib.hid hg
           have hq1 := (hg.block Q Hql.out Hqb.out).trans hqd
           have c1 := cell_n hq1 0 (v := .slice ao acc.length cp) rfl
           have KU : Hid (Calls Try.prog 146 #[.pointer (some ⟨b, 0, none⟩), .int .i64 64] w1 (Gets b w1 vStr (rdText 64 t1))) := text_rd 64 (by decide) hr
           have hR := Hm2.out
           rw [hx] at hR
           simp only [] at hR
           have Hm3 := Lib.hid hR
           clear hr hg hx hq1 hR)
        | (go_simp; go_at_call 146; (with_reducible refine KU.out.mono ?_); intro e w2 hp; rcases hx : rdText 64 t1 with z | ⟨y, t2⟩
           · (rw [hx] at hp; obtain ⟨rfl, hg⟩ := hp; have hR := Hm3.out; rw [hx] at hR; obtain rfl : .error z = res := hR; exact ⟨rfl, rfl, grown_trans (grown_trans (grown_drew hst.out.grown) Hga.out) hg⟩)
           rw [hx] at hp
           obtain ⟨rfl, hr, hg⟩ := hp
           have Hgb := Lib.hid (grown_trans Hga.out hg)
           have hq1 := (Hgb.out.block Q Hql.out Hqb.out).trans hqd
           have c2 := cell_n hq1 0 (v := .slice ao acc.length cp) rfl
           have KN : Hid (Calls Try.prog 116 #[.pointer (some ⟨b, 0, none⟩)] w2 (Gets b w2 vNat (rdNum t2))) := number_rd hr
           have hR := Hm3.out
           rw [hx] at hR
           simp only [] at hR
           have Hm4 := Lib.hid hR
           clear hr hg hx hq1 hR)
        | (go_simp; go_at_call 116; (with_reducible refine KN.out.mono ?_); intro e w3 hp; rcases hx : rdNum t2 with z | ⟨n, t3⟩
           · (rw [hx] at hp; obtain ⟨rfl, hg⟩ := hp; have hR := Hm4.out; rw [hx] at hR; obtain rfl : .error z = res := hR; exact ⟨rfl, rfl, grown_trans (grown_trans (grown_drew hst.out.grown) Hgb.out) hg⟩)
           rw [hx] at hp
           obtain ⟨rfl, hr, hg⟩ := hp
           have Hgc := Lib.hid (grown_trans Hgb.out hg)
           have hq1 := (Hgc.out.block Q Hql.out Hqb.out).trans hqd
           have c3 := cell_n hq1 0 (v := .slice ao acc.length cp) rfl
           have Hr3 := Lib.hid hr
           have own1 := Lib.hid (hown.out.drew.kept Hgc.out (Or.inr (own_other hown.out (by have := Hbw.out; have := HBQ.out; omega)).symm))
           have hqw : Q < w3.heap.size := by have hs := Hgc.out.size; have : wr.heap.size ≤ w3.heap.size := hs; have := Hql.out; omega
           have hR := Hm4.out
           rw [hx] at hR
           simp only [] at hR
           have Hm5 := Lib.hid hR
           clear hr hg hx hq1 hR)
        | (refine step_append_lies _ (by rfl) _ _ _ (by rfl) (Q + 1) 48 i0 _ 3 40 Try.underlying22 hi0 hz0 hz1 hz2 rfl (by omega) (.slice ao acc.length cp) acc.length (acc.flatMap rowPair) (by rfl) (own1.out.alloc _)
            ⟨w3.heap.size, 0, none⟩ 1 1 (rowPair ⟨x, y, n⟩) (by rfl) (by rfl) (World.news_of_block (cs := (rowPair ⟨x, y, n⟩).toArray) (t := 48) (fr := (0, 0)) (heap_alloc_new w3 _)) (by simp [Value.oneCell'])
            (by omega) (by unfold maxLen; omega) (by omega) (by simp; omega) (w3.heap.size + 1) (by simp) ?_
           intro gg cap w4 hown4 hgrow hat hlt4
           have hps := LocSt.push (fi := 0) hst.out HB.out Hbw.out HBQ.out Hr3.out Hgc.out hown.out hgrow (.slice (some ⟨gg, 0, none⟩) (acc.length + 1) cap)
           have c4 := cell_n hps.1 0 (v := .slice ao acc.length cp) rfl
           have f4 := free_n hps.1 0
           have Hst2 := Lib.hid hps.2.1
           have Hown2 := Lib.hid (LocSt.setOwn hown4 0 (.slice (some ⟨gg, 0, none⟩) (acc.length + 1) cap))
           clear hps hown4 hgrow hat hlt4))
      all_goals
        clear c1 c2 c3 c4 f4 d0 hqd
        go_wp2_with fail
        go_roundw
        case rel => exact ⟨j + 1, acc ++ [⟨x, y, n⟩], t3, _, by go_num, by omega, by have := hl.out; show _ = _; simp [this], Hst2, by
          have e1 : (acc ++ [(⟨x, y, n⟩ : PairP)]).length = acc.length + 1 := by simp
          have e2 : (acc ++ [(⟨x, y, n⟩ : PairP)]).flatMap rowPair = acc.flatMap rowPair ++ rowPair ⟨x, y, n⟩ := by simp
          rw [e1, e2]; exact Hown2, Hm5⟩
        case measure => simp [intOf]; omega
    · have hjm : j = m := by omega
      have e1 : rdTabS tm acc u = res := by rw [← hm.out, show m - j = 0 from by omega]; rfl
      unfold rdTabS at e1
      have HR5 := Lib.hid e1
      have Hjm := Lib.hid hjm
      have HU2 := Lib.hid (upTo_rd 8 (by decide) hst.out.rd)
      have Hpf : Hid (PairF (Q + 1) none wr (.slice ao acc.length cp) acc) := PairF.of_own none hown.out (fun _ _ => by simp)
      clear hjm e1
      go_wp2_with fail
      refine HU2.out.mono ?_
      intro e w5 hp
      cases hx : rdUpTo 8 u with
      | error z =>
        rw [hx] at hp
        obtain rfl : .error z = res := by have hh := HR5.out; rw [hx] at hh; exact hh
        obtain ⟨rfl, hg⟩ := hp
        have Hge := Lib.hid (grown_trans hst.out.grown hg)
        clear hg hx
        go_wp2_with fail
        exact ⟨rfl, rfl, Hge.out⟩
      | ok p =>
      obtain ⟨m8, s5⟩ := p
      rw [hx] at hp
      obtain ⟨rfl, hr, hg⟩ := hp
      have hm8 : m8 ≤ 8 := (rdUpTo_le hx).1
      have hrd6 := HR5.out
      rw [hx] at hrd6
      simp only [] at hrd6
      have HR6 := Lib.hid hrd6
      have hpf5 : PairF (Q + 1) none w5 (.slice ao acc.length cp) acc := RecsF.upx Hpf.out (fun _ _ h => h) (UpX.of (Up.ofGrown hg (by have := Hbw.out; have := HBQ.out; omega)) none) (Nat.le_refl _) (fun _ _ _ _ => ⟨by simp, by simp⟩)
      have Hpf5 := Lib.hid hpf5
      clear hpf5
      have Hs5 := Lib.hid (hst.out.read Hbw.out HBQ.out hr hg)
      clear hr hg hx hrd6
      go_wp2_with fail
      go_loopw [26] (fun i wr => ∃ j2 : Nat, ∃ acc2 : List SessP, ∃ u2 : List UInt8, ∃ vs : Value, i = .int .i64 j2 ∧ j2 ≤ m8 ∧ Hid (acc2.length = j2) ∧ Hid (LocSt w wr b B Q 25 tabZero [.slice ao acc.length cp, vs, .int .i64 tm] u2) ∧ Hid (SessO (Q + 1) wr vs acc2) ∧ Hid (PairF (Q + 1) vs.ownBlock wr (.slice ao acc.length cp) acc) ∧ Hid ((match rdSess (m8 - j2) acc2 u2 with | .error z => .error z | .ok (ss, s2) => rdTabE tm acc ss s2) = res))
        (fun i _ => m8 - (intOf i).toNat)
      case atStart => exact ⟨0, [], s5, _, rfl, Nat.zero_le _, rfl, Hs5, SessO.nil _ _, Hpf5, HR6⟩
      case round =>
        obtain ⟨j2, acc2, u2, vs, rfl, hj2, hl2, hst2, hso, hpf, hm6⟩ := hrel
        obtain ⟨q, hq, hown, hk⟩ := hso.out
        obtain ⟨so, sp, rfl⟩ := owns_slice hown
        have hql : q.length = j2 := by have := hl2.out; rw [← hq, List.length_map] at this; exact this
        by_cases hlt : j2 < m8
        · have hm2 := hm6.out
          rw [show m8 - j2 = (m8 - (j2 + 1)) + 1 from by omega, rdSess] at hm2
          have Hm2 := Lib.hid hm2
          have hqd : wr.drew.heap[Q]? = some (.cells #[.slice ao acc.length cp, .slice so q.length sp, .int .i64 tm] 25 (0, 0)) := hst2.out.loc
          have d0 := cell_n hqd 1 (v := .slice so q.length sp) rfl
          have hrdd : Rd wr.drew b u2 := ⟨hst2.out.rd.1, hst2.out.rd.2⟩
          have KN1 : Hid (Calls Try.prog 116 #[.pointer (some ⟨b, 0, none⟩)] wr.drew (Gets b wr.drew vNat (rdNum u2))) := number_rd hrdd
          obtain ⟨i0, hi0, hz0, hz1, hz2⟩ := info_parts info_sess
          have hal : q.length < 8 := by omega
          have Hql2 := Lib.hid hql
          clear hql
          have Hql : Hid (Q < wr.heap.size) := lt_of_block hst2.out.loc
          have Hqb : Hid (some Q ≠ some b) := by show _ ≠ _; have := Hbw.out; have := HBQ.out; simp; omega
          clear hm2
          go_upto_region 8 with fail
          go_region_law (first
            | (go_simp; go_at_call 116; (with_reducible refine KN1.out.mono ?_); intro e w1 hp; rcases hx : rdNum u2 with z | ⟨x, t1⟩
               · (rw [hx] at hp; obtain ⟨rfl, hg⟩ := hp; have hR := Hm2.out; rw [hx] at hR; obtain rfl : .error z = res := hR; exact ⟨rfl, rfl, grown_trans (grown_drew hst2.out.grown) hg⟩)
               rw [hx] at hp
               obtain ⟨rfl, hr, hg⟩ := hp
               have Hg1 := Lib.hid hg
               have hq1 := (Hg1.out.block Q Hql.out Hqb.out).trans hqd
               have c1 := cell_n hq1 1 (v := .slice so q.length sp) rfl
               have KN2 : Hid (Calls Try.prog 116 #[.pointer (some ⟨b, 0, none⟩)] w1 (Gets b w1 vNat (rdNum t1))) := number_rd hr
               have hR := Hm2.out
               rw [hx] at hR
               simp only [] at hR
               have Hm3 := Lib.hid hR
               clear hr hg hx hq1 hR)
            | (go_simp; go_at_call 116; (with_reducible refine KN2.out.mono ?_); intro e w2 hp; rcases hx : rdNum t1 with z | ⟨y, t2⟩
               · (rw [hx] at hp; obtain ⟨rfl, hg⟩ := hp; have hR := Hm3.out; rw [hx] at hR; obtain rfl : .error z = res := hR; exact ⟨rfl, rfl, grown_trans (grown_trans (grown_drew hst2.out.grown) Hg1.out) hg⟩)
               rw [hx] at hp
               obtain ⟨rfl, hr, hg⟩ := hp
               have Hg2 := Lib.hid (grown_trans Hg1.out hg)
               have hq1 := (Hg2.out.block Q Hql.out Hqb.out).trans hqd
               have c2 := cell_n hq1 1 (v := .slice so q.length sp) rfl
               have KN3 : Hid (Calls Try.prog 116 #[.pointer (some ⟨b, 0, none⟩)] w2 (Gets b w2 vNat (rdNum t2))) := number_rd hr
               have hR := Hm3.out
               rw [hx] at hR
               simp only [] at hR
               have Hm4 := Lib.hid hR
               clear hr hg hx hq1 hR)
            | (go_simp; go_at_call 116; (with_reducible refine KN3.out.mono ?_); intro e w3 hp; rcases hx : rdNum t2 with z | ⟨n, t3⟩
               · (rw [hx] at hp; obtain ⟨rfl, hg⟩ := hp; have hR := Hm4.out; rw [hx] at hR; obtain rfl : .error z = res := hR; exact ⟨rfl, rfl, grown_trans (grown_trans (grown_drew hst2.out.grown) Hg2.out) hg⟩)
               rw [hx] at hp
               obtain ⟨rfl, hr, hg⟩ := hp
               have Hg3 := Lib.hid (grown_trans Hg2.out hg)
               have hq1 := (Hg3.out.block Q Hql.out Hqb.out).trans hqd
               have c3 := cell_n hq1 1 (v := .slice so q.length sp) rfl
               have KR : Hid (Calls Try.prog 152 #[.pointer (some ⟨b, 0, none⟩)] w3 (GetsRes w3.heap.size b w3 (rdRes t3))) := result_rd hr
               have hR := Hm4.out
               rw [hx] at hR
               simp only [] at hR
               have Hm5 := Lib.hid hR
               clear hr hg hx hq1 hR)
            | (go_simp; go_at_call 152; (with_reducible refine KR.out.mono ?_); intro e w4 hp; rcases hx : rdRes t3 with z | ⟨r, t4⟩
               · (rw [hx] at hp; obtain ⟨rfl, hg⟩ := hp; have hR := Hm5.out; rw [hx] at hR; obtain rfl : .error z = res := hR; exact ⟨rfl, rfl, grown_trans (grown_trans (grown_drew hst2.out.grown) Hg3.out) hg⟩)
               rw [hx] at hp
               obtain ⟨kv, rfl, hs, hr, hg⟩ := hp
               have Hg4 := Lib.hid (grown_trans Hg3.out hg)
               obtain ⟨ko, kc, rfl⟩ := owns_slice hs
               have hsz3 : wr.heap.size ≤ w3.heap.size := Hg3.out.size
               have Hs4 : Hid (StrF (Q + 1) (Value.slice so q.length sp).ownBlock w4 (.slice ko r.keys.length kc) r.keys) := StrF.of_own _ (own_base hs (by have := Hql.out; omega)) (own_new hs (Nat.le_refl _) (fun g e => by have := (hown.lt g e).2; omega))
               clear hs hsz3
               have Hr4 := Lib.hid hr
               have own1 := Lib.hid (hown.drew.kept Hg4.out (Or.inr (own_other hown (by have := Hbw.out; have := HBQ.out; omega)).symm))
               have hqw : Q < w4.heap.size := by have hs := Hg4.out.size; have : wr.heap.size ≤ w4.heap.size := hs; have := Hql.out; omega
               have hq1 := (Hg4.out.block Q Hql.out Hqb.out).trans hqd
               have c4 := cell_n hq1 1 (v := .slice so q.length sp) rfl
               have hR := Hm5.out
               rw [hx] at hR
               simp only [] at hR
               have Hm6 := Lib.hid hR
               clear hr hg hx hq1 hR)
            | (refine step_append_lies _ (by rfl) _ _ _ (by rfl) (Q + 1) 136 i0 _ 7 80 Try.underlying23 hi0 hz0 hz1 hz2 rfl (by omega) (.slice so q.length sp) q.length (q.flatMap fun p => rowSess p.1 p.2) (by rfl) (own1.out.alloc _)
                ⟨w4.heap.size, 0, none⟩ 1 1 (rowSess ⟨x, y, r.kind, r.val, r.ver, r.keys, n⟩ (.slice ko r.keys.length kc)) (by rfl) (by rfl) (World.news_of_block (cs := (rowSess ⟨x, y, r.kind, r.val, r.ver, r.keys, n⟩ (.slice ko r.keys.length kc)).toArray) (t := 136) (fr := (0, 0)) (heap_alloc_new w4 _)) (by simp [Value.oneCell'])
                (by omega) (by unfold maxLen; omega) (by omega) (by simp; omega) (w4.heap.size + 1) (by simp) ?_
               intro gg cap w6 hown6 hgrow hat hlt6
               have hps := sess_push (s := ⟨x, y, r.kind, r.val, r.ver, r.keys, n⟩) (v' := .slice (some ⟨gg, 0, none⟩) (q.length + 1) cap) hst2.out HB.out Hbw.out HBQ.out Hr4.out Hg4.out hq hown hk hpf.out Hs4.out hgrow hown6 rfl hat
               have c5 := cell_n hps.1 1 (v := .slice so q.length sp) rfl
               have f5 := free_n hps.1 1
               have Hps := Lib.hid hps.2
               clear hps hown6 hgrow hat hlt6))
          all_goals
            clear c1 c2 c3 c4 c5 f5 d0 hqd
            go_wp2_with fail
            go_roundw
            case rel => exact ⟨j2 + 1, acc2 ++ [⟨x, y, r.kind, r.val, r.ver, r.keys, n⟩], t4, _, by go_num, by omega, by have := hl2.out; show _ = _; simp [this], Lib.hid Hps.out.1, Lib.hid Hps.out.2.1, Lib.hid Hps.out.2.2, Hm6⟩
            case measure => simp [intOf]; omega
        · have hjm : j2 = m8 := by omega
          have Hql2 := Lib.hid hql
          clear hql
          have e1 : rdTabE tm acc acc2 u2 = res := by rw [← hm6.out, show m8 - j2 = 0 from by omega]; rfl
          unfold rdTabE at e1
          have HR7 := Lib.hid e1
          have htf : TabF (Q + 1) wr (.slice ao acc.length cp) (.slice so q.length sp) ⟨acc, acc2, tm⟩ := ⟨RecsF.upx hpf.out (fun _ _ h => h) (UpX.of (Up.refl (Q + 1) wr) none) (Nat.le_refl _) (fun _ _ _ _ => ⟨by simp, by simp⟩), hso.out.sessF⟩
          have HV := Lib.hid (wire_isTable _ _ _ wr htf.table2)
          have Htf := Lib.hid htf
          have q0 := cell_n hst2.out.loc 0 (v := .slice ao acc.length cp) rfl
          have q1 := cell_n hst2.out.loc 1 (v := .slice so q.length sp) rfl
          have q2 := cell_n hst2.out.loc 2 (v := .int .i64 tm) rfl
          have Hj2 := Lib.hid hjm
          clear hjm e1 htf
          go_wp2_with fail
          refine HV.out.mono ?_
          rintro e w7 ⟨rfl, hb7⟩
          clear q0 q1 q2
          have hq7 := (hb7.block _ (lt_of_block hst2.out.loc)).trans hst2.out.loc
          have hc7 := (hb7.block _ (lt_of_block hst2.out.res)).trans hst2.out.res
          have hr7 : Rd w7 b u2 := ⟨(hb7.block _ (lt_of_block hst2.out.rd.1)).trans hst2.out.rd.1, hst2.out.rd.2⟩
          have hg7 : w.grownBy w7 (some b) := grown_trans hst2.out.grown (below_grown hb7 _)
          have HT7 := Lib.hid (Htf.out.up (S' := Q + 1) (Up.ofBelow hb7) (Nat.le_refl _))
          have Hg7 := Lib.hid hg7
          have hrd9 := HR7.out
          cases hok : tabB ⟨acc, acc2, tm⟩ with
          | false =>
            obtain rfl : .error 6 = res := by rw [← hrd9, if_neg (by simp [hok])]
            clear hq7 hc7 hr7 hg7 hb7 hrd9 hok
            go_wp2_with (go_at_call 121; refine (fail_any _ _).mono ?_; rintro e w' ⟨rfl, rfl⟩)
            exact ⟨rfl, rfl, Hg7.out⟩
          | true =>
            obtain rfl : .ok ((⟨acc, acc2, tm⟩ : Tab), u2) = res := by rw [← hrd9, if_pos hok]
            have he := setAll_at hc7 [.slice ao acc.length cp, .slice so q.length sp, .int .i64 tm] rfl
            have hre : Rd (setAll w7 B [.slice ao acc.length cp, .slice so q.length sp, .int .i64 tm]) b u2 := ⟨setAll_other hr7.1 (by have := Hbw.out; omega) _, hr7.2⟩
            have hge := setAll_grown hg7 (b := B) (by have := HB.out; omega) [.slice ao acc.length cp, .slice so q.length sp, .int .i64 tm]
            have HT8 := Lib.hid (HT7.out.up (w' := setAll w7 B [.slice ao acc.length cp, .slice so q.length sp, .int .i64 tm]) (S' := Q + 1) (Up.setAll _ w7 (by have := HBQ.out; omega) _) (Nat.le_refl _))
            have He := Lib.hid he
            have Hre := Lib.hid hre
            have Hge := Lib.hid hge
            have q0 := cell_n hq7 0 (v := .slice ao acc.length cp) rfl
            have q1 := cell_n hq7 1 (v := .slice so q.length sp) rfl
            have q2 := cell_n hq7 2 (v := .int .i64 tm) rfl
            have c0 := cell_n hc7 0 (v := .slice none 0 0) rfl
            have f0 := free_n hc7 0
            have c1 := cell_n hc7 1 (v := .slice none 0 0) rfl
            have f1 := free_n hc7 1
            have c2 := cell_n hc7 2 (v := .int .i64 0) rfl
            have f2 := free_n hc7 2
            have Hsz : Hid (B ≠ Q) := by show _ ≠ _; have := HBQ.out; omega
            clear he hre hge hq7 hc7 hr7 hg7 hb7 hrd9 hok
            go_wp2_with fail
            change bodyPost _ _ _ Exit.ret _ (setAll w7 B [.slice ao acc.length cp, .slice so q.length sp, .int .i64 tm])
            generalize setAll w7 B [.slice ao acc.length cp, .slice so q.length sp, .int .i64 tm] = W5 at He Hre Hge HT8 ⊢
            clear c0 f0 c1 f1 c2 f2 q0 q1 q2
            have c0 := cell_n He.out 0 (v := .slice ao acc.length cp) rfl
            have c1 := cell_n He.out 1 (v := .slice so q.length sp) rfl
            have c2 := cell_n He.out 2 (v := .int .i64 tm) rfl
            refine bodyPost_ret (by simp [results, Try.results151, go_sem, c0, c1, c2]; rfl) rfl ?_
            exact ⟨_, _, rfl, HT8.out.base (by have := HB.out; have := HBQ.out; omega), Hre.out, Hge.out⟩
end Go.Proofs.Ytidiodlemjeelaa
