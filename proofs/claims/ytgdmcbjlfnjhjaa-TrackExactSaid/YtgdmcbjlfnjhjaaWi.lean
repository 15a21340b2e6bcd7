/-
  Rows that are written over: all blocks keep their sizes; the laws' writing over lists of numbers.
-/
import Derived.Test.YtgdmcbjlfnjhjaaMq
import Derived.Deep.AppendSrc
namespace Go.Proofs.Ytgdmcbjlfnjhjaa
open Go.RowKit Wm Mm
set_option linter.unusedVariables false
set_option linter.unusedSimpArgs false

/-- all blocks of cells are there still, each of its size -/
def KeepSz (w w' : World) : Prop := ∀ (g : Nat) (cur : Array Value) (e : TypeId) (fr : Nat × Nat), w.heap[g]? = some (Obj.cells cur e fr) → ∃ cur' : Array Value, w'.heap[g]? = some (Obj.cells cur' e fr) ∧ cur'.size = cur.size
theorem KeepSz.refl (w : World) : KeepSz w w := fun g cur e fr h => ⟨cur, h, rfl⟩
theorem KeepSz.trans {a b c : World} (h : KeepSz a b) (k : KeepSz b c) : KeepSz a c := fun g cur e fr hg => by
  obtain ⟨c1, h1, h2⟩ := h g cur e fr hg
  obtain ⟨c2, h3, h4⟩ := k g c1 e fr h1
  exact ⟨c2, h3, h4.trans h2⟩
theorem KeepSz.below {w w' : World} (h : Below w.heap.size w w') : KeepSz w w' := fun g cur e fr hg => ⟨cur, (h.block g (lt_of_block hg)).trans hg, rfl⟩
theorem KeepSz.setCell (w : World) (b i : Nat) (v : Value) : KeepSz w (w.setCell ⟨b, i, none⟩ v) := fun g cur e fr hg => by
  rw [heap_setCell]
  by_cases h : b = g
  · subst h
    rw [if_pos rfl, hg]
    exact ⟨_, rfl, by simp⟩
  · rw [if_neg h]
    exact ⟨cur, hg, rfl⟩
theorem run_append_keep {P : Program} (w : World) (base : Nat) (t tx ty e : TypeId) (i : TypeInfo) (z : Value) (size bytes : Nat) (ht : P.underlying t = some (.slice e)) (hi : P.info? e = some i) (hz : i.zero = some z)
    (hsize : i.size = size) (hby : i.bytes = bytes) (hzs : z.cells.size = size)
    (v : Value) (n : Nat) (xs : List Value) (hown : w.ownsRow base e size v n xs)
    (x : Value) (m : Nat) (news : List Value) (hs : Src P size tx x m news w)
    (h63 : n + m ≤ maxLen) (hbytes : (n + m) * bytes ≤ 140737488355328) (hbase : base ≤ w.heap.size) :
    ∃ v' w', (Builtin.append_ #[t, tx] ty #[v, x]).run P w = .ok v' w' ∧ w'.ownsRow base e size v' (n + m) (xs ++ news) ∧ w.grownBy w' v.ownBlock ∧ KeepSz w w' := by
  subst hsize
  subst hby
  have hl := hs.newsLen
  have hsmall : n + m ≤ 9223372036854775807 := by simp only [maxLen] at h63; omega
  have hlen : (xs ++ news).length = (n + m) * i.size := by rw [List.length_append, hown.1, hl, Nat.add_mul]
  have keepA : ∀ o : Obj, KeepSz w (w.drew.alloc o) := fun o g cur e fr h => ⟨cur, (heap_alloc_old w.drew _ (lt_of_block h)).trans h, rfl⟩
  have grown : ∀ (old : Nat), old < n + m → ∀ (row : Option Nat),
      (w.drew.alloc (.cells ((xs ++ news).toArray ++ Builtin.zeroCells z.cells (grownCap w (n + m) old e - (n + m))) e)).ownsRow base e i.size
        (.slice (some ⟨w.heap.size, 0, none⟩) (n + m) (grownCap w (n + m) old e)) (n + m) (xs ++ news) ∧
      w.grownBy (w.drew.alloc (.cells ((xs ++ news).toArray ++ Builtin.zeroCells z.cells (grownCap w (n + m) old e - (n + m))) e)) row := by
    intro old ho row
    have hge := grownCap_ge w (n + m) old e
    have hcm : grownCap w (n + m) old e ≤ maxLen := grownCap_le_maxLen w (n + m) old e h63
    refine ⟨⟨hlen, .inr ⟨w.heap.size, _, _, rfl, hbase, heap_alloc_new w.drew _, hge, hcm, ?_, ?_⟩⟩, ⟨rfl, rfl, rfl, by simp, fun k hk _ => heap_alloc_old w.drew _ hk⟩⟩
    · simp only [Array.size_append, List.size_toArray, size_zeroCells, hzs, hlen, ← Nat.add_mul]
      congr 1
      omega
    · simp only [Array.toList_append]
      rw [← hlen]
      exact List.take_left
  rcases hown.2 with ⟨rfl, rfl⟩ | ⟨g, cap, cur, rfl, hbg, hg, hnc, hcm, hcs, htake⟩
  · have hx : xs = [] := List.eq_nil_of_length_eq_zero (by simpa using hown.1)
    subst hx
    by_cases hm : m = 0
    · subst hm
      have hn : news = [] := List.eq_nil_of_length_eq_zero (by simpa using hl)
      subst hn
      refine ⟨.slice none 0 0, w, ?_, World.ownsRow_nil w base e i.size, ⟨rfl, rfl, rfl, Nat.le_refl _, fun _ _ _ => rfl⟩, KeepSz.refl _⟩
      rcases hs.kind with ⟨e', hk⟩ | hk <;> simp [Builtin.append_, run_underlying ht, run_underlying hk, sizeOf, typeInfo, hi, hs.len, hs.cells]
    · have hr := run_append_grow_src (P := P) w t tx ty e i z ht hi hz none 0 0 [] (by simp [Builtin.firstCells]) x m news hs (by omega) (by omega) (growslice_fits (by omega) hbytes)
      have hgr := grown 0 (by omega) (Value.ownBlock (.slice none 0 0))
      exact ⟨_, _, hr, hgr.1, hgr.2, keepA _⟩
  · by_cases hroom : n + m ≤ cap
    · have hfit : n * i.size + news.length ≤ cur.size := by rw [hl, hcs, ← Nat.add_mul]; exact Nat.mul_le_mul_right _ hroom
      have hst := run_storeCells_at P g (n * i.size) e news 0 cur w hg (by simpa using hfit) hs.one
      simp only [Nat.add_zero] at hst
      have hr : (Builtin.append_ #[t, tx] ty #[.slice (some ⟨g, 0, none⟩) n cap, x]).run P w =
          .ok (.slice (some ⟨g, 0, none⟩) (n + m) cap) (w.setRow g (cur.toList.take (n * i.size) ++ news ++ cur.toList.drop (n * i.size + news.length)).toArray) := by
        rcases hs.kind with ⟨e', hk⟩ | hk <;> simp [Builtin.append_, run_underlying ht, run_underlying hk, sizeOf, typeInfo, hi, hs.len, hroom, hs.cells, Addr.add_lit, hst]
      refine ⟨_, _, hr, ⟨hlen, .inr ⟨g, cap, _, rfl, hbg, setRow_heap w g cur _ e _ hg, hroom, hcm, ?_, ?_⟩⟩, ⟨rfl, rfl, rfl, by simp, fun k _ hk => setRow_other w g k _ (fun e => hk (by simp [Value.ownBlock, e]))⟩, ?_⟩
      · simp only [List.size_toArray, List.length_append, List.length_take, List.length_drop, Array.length_toList]
        omega
      · rw [htake, ← hlen]
        exact List.take_left
      · intro k cur0 e0 fr0 hk0
        by_cases hkg : k = g
        · subst hkg
          rw [hg] at hk0
          injection hk0 with hk1
          injection hk1 with e1 e2 e3
          subst e1; subst e2; subst e3
          refine ⟨_, setRow_heap w k cur _ e _ hg, ?_⟩
          simp only [List.size_toArray, List.length_append, List.length_take, List.length_drop, Array.length_toList]
          omega
        · exact ⟨cur0, (setRow_other w g k _ hkg).trans hk0, rfl⟩
    · have holds : ∀ j u, xs[j]? = some u → w.cell? ((⟨g, 0, none⟩ : Addr).add j) = some u := hown.cells (g := g) rfl
      have hr := run_append_grow_src (P := P) w t tx ty e i z ht hi hz (some ⟨g, 0, none⟩) n cap xs (run_firstCells_some w.drew i.size n ⟨g, 0, none⟩ n cap xs hown.1 (by simpa using holds)) x m news hs (by omega) (by omega) (growslice_fits (by omega) hbytes)
      have hgr := grown cap (by omega) (Value.ownBlock (.slice (some ⟨g, 0, none⟩) n cap))
      exact ⟨_, _, hr, hgr.1, hgr.2, keepA _⟩

theorem wpList_append_keep {P : Program} {w : World} {ops : Array Oper} {rest : List Oper} {o : Oper} {a : Act} {Q : Exit → Act → World → Prop} (hgd : o.guard = none) (s x : Operand) (t tx : TypeId)
    (ho : o.op = .call { callee := .builtin .append, args := #[s, x], argTypes := #[t, tx] })
    (base : Nat) (e : TypeId) (z : Value) (size bytes : Nat) (ht : P.underlying t = some (.slice e))
    (hinfo : (P.info? e).map (fun i => (i.zero, i.size, i.bytes)) = some (some z, size, bytes)) (hzs : z.cells.size = size)
    (v : Value) (n : Nat) (xs : List Value) (hs : a.eval s = v) (hown : w.ownsRow base e size v n xs)
    (xv : Value) (m : Nat) (news : List Value) (hx : a.eval x = xv) (hsrc : Src P size tx xv m news w)
    (h63 : n + m ≤ maxLen) (hbytes : (n + m) * bytes ≤ 140737488355328) (hbase : base ≤ w.heap.size)
    (h : ∀ v' w', w'.ownsRow base e size v' (n + m) (xs ++ news) → w.grownBy w' v.ownBlock → KeepSz w w' → wpList P ops Q rest (a.put o.dst v') w') :
    wpList P ops Q (o :: rest) a w := by
  obtain ⟨i, hi, hz0, hz1, hz2⟩ := info_parts hinfo
  refine wpList_plain hgd fun K hK => ?_
  obtain ⟨v', w', hr, h2, h3, h4⟩ := run_append_keep (P := P) w base t tx o.type e i z size bytes ht hi hz0 hz1 hz2 hzs v n xs hown xv m news hsrc h63 hbytes hbase
  unfold Oper.wp execOp
  simp only [ho, resolve, invoke, builtin, Sem.run_bind, Sem.run_pure, Result.andThen_ok, List.map_toArray, List.map_cons, List.map_nil, hs, hx, hr]
  exact hK _ _ (h v' w' h2 h3 h4)


/-- a row that may be written over -/
def WI (S : Nat) (w : World) (v : Value) : Prop := v = .slice none 0 0 ∨ ∃ g n cap cur, v = .slice (some ⟨g, 0, none⟩) n cap ∧ S ≤ g ∧ w.heap[g]? = some (.cells cur 3 (0, 0)) ∧ n ≤ cap ∧ cap ≤ maxLen ∧ cur.size = cap
theorem WI.of_own {S n : Nat} {w : World} {v : Value} {xs : List Value} (h : w.ownsRow S 3 1 v n xs) : WI S w v := by
  rcases h.2 with ⟨rfl, rfl⟩ | ⟨g, cap, cur, rfl, hb, hh, h1, h2, h3, _⟩
  · exact Or.inl rfl
  · exact Or.inr ⟨g, n, cap, cur, rfl, hb, hh, h1, h2, by rw [h3, Nat.mul_one]⟩
theorem WI.keep {S : Nat} {w w' : World} {v : Value} (h : WI S w v) (k : KeepSz w w') : WI S w' v := by
  rcases h with rfl | ⟨g, n, cap, cur, rfl, hb, hh, h1, h2, h3⟩
  · exact Or.inl rfl
  · obtain ⟨cur', h4, h5⟩ := k g cur _ _ hh
    exact Or.inr ⟨g, n, cap, cur', rfl, hb, h4, h1, h2, h5.trans h3⟩
theorem WI.base {S S' : Nat} {w : World} {v : Value} (h : WI S w v) (hs : S' ≤ S) : WI S' w v := by
  rcases h with rfl | ⟨g, n, cap, cur, rfl, hb, r⟩
  · exact Or.inl rfl
  · exact Or.inr ⟨g, n, cap, cur, rfl, Nat.le_trans hs hb, r⟩
theorem info_intW : (Try.prog.info? 3).map (fun i => (i.zero, i.size, i.bytes)) = some (some (.int .i64 0), 1, 8) := by kernel_rfl
set_option maxHeartbeats 2000000 in
theorem over_ints (v : Value) (S : Nat) (w : World) (h : WI S w v) (hS : S ≤ w.heap.size) (hn : ∀ a n c, v = .slice a n c → n ≤ 1099511627776) :
    Calls Try.prog 58 #[v] w fun e w' => e = .returned (.tuple #[]) ∧ w.grownBy w' v.ownBlock ∧ KeepSz w w' := by
  obtain ⟨post, HP⟩ := hide (fun (e : Ending) (w' : World) => e = .returned (.tuple #[]) ∧ w.grownBy w' v.ownBlock ∧ KeepSz w w')
  rw [HP.out]
  obtain ⟨a, n, c, rfl⟩ : ∃ a n c, v = .slice a n c := by
    rcases h with rfl | ⟨g, n, cap, cur, rfl, _⟩ <;> exact ⟨_, _, _, rfl⟩
  have hn := hn _ _ _ rfl
  have HW := Lib.hid h
  clear h
  go_enter Try.func58, Try.ntmps58
  go_wp2_with fail
  go_loopw [2] (fun i wr => ∃ k : Nat, i = .int .i64 (k : Int) ∧ k ≤ n ∧ Hid (w.grownBy wr (Value.slice a n c).ownBlock) ∧ Hid (KeepSz w wr)) (fun i _ => n - (intOf i).toNat)
  case atStart => exact ⟨0, rfl, Nat.zero_le _, ⟨rfl, rfl, rfl, Nat.le_refl _, fun _ _ _ => rfl⟩, KeepSz.refl _⟩
  case round =>
    obtain ⟨k, rfl, hk, HB, HK⟩ := hrel
    by_cases hlt : k < n
    · obtain ⟨g, cur, rfl, hgS, hh, hnc, hcs⟩ : ∃ g cur, a = some ⟨g, 0, none⟩ ∧ S ≤ g ∧ wr.heap[g]? = some (.cells cur 3 (0, 0)) ∧ n ≤ cur.size ∧ cur.size = c := by
        rcases HW.out.keep HK.out with he | ⟨g, n', cap, cur, he, hb, hh, h1, h2, h3⟩
        · injection he with e1 e2 e3
          omega
        · injection he with e1 e2 e3
          subst e1; subst e2; subst e3
          exact ⟨g, cur, rfl, hb, hh, by omega, h3⟩
      have hkc : k < cur.size := by omega
      have ck : wr.cell? ⟨g, k, none⟩ = some cur[k] := cell_n hh k (by simp [hkc])
      have fk := free_n hh k
      obtain ⟨u, hu⟩ := hide cur[k]
      rw [hu.out] at ck
      have HB2 : Hid (w.grownBy (wr.setCell ⟨g, k, none⟩ (.int .i64 (-7))) (Value.slice (some ⟨g, 0, none⟩) n c).ownBlock) := grown_trans HB.out (grown_setCell wr ⟨g, k, none⟩ _)
      have HK2 : Hid (KeepSz w (wr.setCell ⟨g, k, none⟩ (.int .i64 (-7)))) := HK.out.trans (KeepSz.setCell wr g k _)
      have hk1 : k + 1 ≤ 1099511627777 := by omega
      clear hh hgS hnc hcs
      go_wp2_with fail
      go_roundw
      case rel => exact ⟨k + 1, by go_num, hlt, HB2, HK2⟩
      case measure => simp [intOf]; omega
    · have hxs : ∃ xs, wr.ownsRow S 3 1 (.slice a n c) n xs := by
        rcases HW.out.keep HK.out with he | ⟨g, n', cap, cur, he, hb, hh, h1, h2, h3⟩
        · injection he with e1 e2 e3
          subst e1; subst e2; subst e3
          exact ⟨[], World.ownsRow_nil _ _ _ _⟩
        · injection he with e1 e2 e3
          subst e1; subst e2; subst e3
          exact ⟨cur.toList.take n, by simp; omega, .inr ⟨g, c, cur, rfl, hb, hh, h1, h2, by omega, by rw [Nat.mul_one]⟩⟩
      obtain ⟨xs, ho⟩ := hxs
      have Ho := Lib.hid (ho.alloc (.cells #[.int .i64 (-7), .int .i64 (-7)] 3))
      have Hsrc := Lib.hid (src_new (P := Try.prog) (w := wr) (size := 1) (n := 2) (e := 3) (tx := 22) Try.underlying22 #[.int .i64 (-7), .int .i64 (-7)] 2 rfl (by intro u hu; simp at hu; rcases hu with rfl | rfl <;> rfl))
      have hsz : S ≤ wr.heap.size := Nat.le_trans hS HB.out.size
      have HSa : Hid (S ≤ (wr.alloc (.cells #[.int .i64 (-7), .int .i64 (-7)] 3)).heap.size) := by show _ ≤ _; simp; omega
      have HBa : Hid (w.grownBy (wr.alloc (.cells #[.int .i64 (-7), .int .i64 (-7)] 3)) (Value.slice a n c).ownBlock) := grown_trans HB.out (World.grownBy_alloc wr _ _)
      have HKa : Hid (KeepSz w (wr.alloc (.cells #[.int .i64 (-7), .int .i64 (-7)] 3))) := HK.out.trans (KeepSz.below ((Below.refl _ _).alloc (Nat.le_refl _) _))
      have t0 : decide (k < n) = false := decide_eq_false hlt
      clear ho hsz hlt
      go_wp2_with (at_builtin; refine wpList_append_keep rfl _ _ 22 22 rfl S 3 (.int .i64 0) 1 8 Try.underlying22 info_intW rfl _ _ _ rfl Ho.out _ _ _ rfl Hsrc.out (by unfold maxLen; omega) (by omega) HSa.out ?_)
      intro v' w2 ho2 hg2 hk2
      have Hp : Hid (post (.returned (.tuple #[])) w2) := by
        show post _ _
        rw [← HP.out]
        exact ⟨rfl, grown_trans HBa.out hg2, HKa.out.trans hk2⟩
      clear ho2 hg2 hk2
      go_wp2_with fail
      first | exact Hp.out | (go_ret; exact Hp.out) | (go_end0; exact Hp.out)
theorem WI.below {S : Nat} {w w' : World} {v : Value} (h : WI S w v) (hg : w.grownBy w' v.ownBlock) (hS : S ≤ w.heap.size) : Below S w w' := by
  rcases h with rfl | ⟨g, n, cap, cur, rfl, hb, _⟩
  · exact ⟨hg.os, hg.tape, hg.output, hg.size, fun k hk => hg.block k (by omega) (by simp [Value.ownBlock])⟩
  · exact grown_below (b := g) hg hb hS
theorem WI.blk {S : Nat} {w : World} {v : Value} (h : WI S w v) : ∀ k, v.ownBlock = some k → k < w.heap.size := by
  intro k hk
  rcases h with rfl | ⟨g, n, cap, cur, rfl, hb, hh, _⟩
  · cases hk
  · cases hk
    exact lt_of_block hh
end Go.Proofs.Ytgdmcbjlfnjhjaa
