/-
  Memory: small laws on cells and blocks that every walk here uses. No program in sight.
-/
import Derived.Test.YtnmlkoidmacinaaDoorRows
import Derived.WalkKit
import Derived.Deep.AppendSrc
import Derived.Deep.QuietTactic
namespace Go.Proofs.YtnmlkoidmacinaaDoor.Mm

/-- what a store of one cell does to a block -/
def storeIn (a : Addr) (v : Value) : Obj → Obj
  | .cells c e f => .cells (if a.spot.isSome then c else c.setIfInBounds a.off v) e f
  | o => o
theorem heap_setCell (w : World) (a : Addr) (v : Value) (k : Nat) :
    (w.setCell a v).heap[k]? = if a.block = k then (w.heap[k]?).map (storeIn a v) else w.heap[k]? := by
  simp only [World.setCell, Array.getElem?_modify]
  split
  · congr 1
  · rfl
theorem hp_alloc (w : World) (o : Obj) (k : Nat) : (w.alloc o).heap[k]? = if k = w.heap.size then some o else w.heap[k]? := by
  show (w.heap.push o)[k]? = _
  rw [Array.getElem?_push]
theorem hp_at (w : World) (o : Obj) {k : Nat} (h : k = w.heap.size) : (w.alloc o).heap[k]? = some o := by rw [hp_alloc, if_pos h]
theorem hp_past (w : World) (o : Obj) {k : Nat} (h : k ≠ w.heap.size) : (w.alloc o).heap[k]? = w.heap[k]? := by rw [hp_alloc, if_neg h]
theorem hp_drew (w : World) (k : Nat) : w.drew.heap[k]? = w.heap[k]? := rfl
theorem world_ext {w w' : World} (h : ∀ k : Nat, w.heap[k]? = w'.heap[k]?) (h1 : w.tape = w'.tape) (h2 : w.drawn = w'.drawn) (h3 : w.os = w'.os) (h4 : w.output = w'.output) : w = w' := by
  obtain ⟨a, b, c, d, e⟩ := w
  obtain ⟨a', b', c', d', e'⟩ := w'
  have : a = a' := Array.ext_getElem? h
  simp_all
theorem setCell_self {w : World} {r : Addr} {v : Value} (h : w.cell? r = some v) : w.setCell r v = w := by
  refine world_ext (fun k => ?_) rfl rfl rfl rfl
  rw [heap_setCell]
  split
  · rename_i e; subst e
    unfold World.cell? at h
    revert h
    cases hb : w.heap[r.block]? with
    | none => simp
    | some o =>
      cases o <;> simp [storeIn]
      rename_i c t f
      intro hs hc
      intro _
      apply Array.ext_getElem?
      intro i
      rw [Array.getElem?_setIfInBounds]
      split
      · rename_i hi; subst hi
        rw [hc]
        have := (Array.getElem?_eq_some_iff.1 hc).1
        rw [if_pos this]
      · rfl
  · rfl
theorem setCell_twice (w : World) (r : Addr) (u v : Value) : (w.setCell r u).setCell r v = w.setCell r v := by
  refine world_ext (fun k => ?_) rfl rfl rfl rfl
  simp only [heap_setCell]
  split
  · cases w.heap[k]? with
    | none => rfl
    | some o =>
      cases o <;> simp [storeIn]
      split <;> simp [Array.setIfInBounds_setIfInBounds]
  · rfl

theorem hide {α : Type} (x : α) : ∃ r : α, Go.RowKit.Hid (x = r) := ⟨x, rfl⟩
theorem grown_setCell (w : World) (a : Addr) (v : Value) : w.grownBy (w.setCell a v) (some a.block) :=
  ⟨rfl, rfl, rfl, by simp, fun k _ hk => Go.RowKit.Below.heap_setCell _ _ _ _ (fun e => hk (by rw [e]))⟩
theorem grown_trans {a b c : World} {r : Option Nat} (h : a.grownBy b r) (k : b.grownBy c r) : a.grownBy c r :=
  ⟨k.os.trans h.os, k.tape.trans h.tape, k.output.trans h.output, Nat.le_trans h.size k.size,
    fun i hi hn => (k.block i (Nat.lt_of_lt_of_le hi h.size) hn).trans (h.block i hi hn)⟩


/-- append of one element that was just laid into a block of its own: the row's owner owns it, too -/
theorem wpList_push {P : Program} {w : World} {ops : Array Oper} {rest : List Oper} {o : Oper} {a : Act} {Q : Exit → Act → World → Prop} (hgd : o.guard = none) (s x : Operand) (t : TypeId)
    (ho : o.op = .call { callee := .builtin .append, args := #[s, x], argTypes := #[t, t] })
    (base : Nat) (e : TypeId) (z : Value) (size bytes : Nat) (ht : P.underlying t = some (.slice e))
    (hinfo : (P.info? e).map (fun i => (i.zero, i.size, i.bytes)) = some (some z, size, bytes)) (hzs : z.cells.size = size) (hsz : 0 < size)
    (v : Value) (n : Nat) (xs : List Value) (hs : a.eval s = v) (hown : w.ownsRow base e size v n xs)
    (cs : Array Value) (hx : a.eval x = .slice (some ⟨w.heap.size, 0, none⟩) 1 1) (hcs : cs.size = size) (h1 : ∀ u ∈ cs.toList, u.oneCell' = true)
    (h63 : n + 1 ≤ maxLen) (hbytes : (n + 1) * bytes ≤ 140737488355328) (hbase : base ≤ w.heap.size)
    (h : ∀ v' w', w'.ownsRow base e size v' (n + 1) (xs ++ cs.toList) → w.grownBy w' v.ownBlock → wpList P ops Q rest (a.put o.dst v') w') :
    wpList P ops Q (o :: rest) a (w.alloc (.cells cs e)) := by
  obtain ⟨i, hi, hz0, hz1, hz2⟩ := info_parts hinfo
  refine wpList_append_own (w.alloc (.cells cs e)) hgd s x t ho base e i z size bytes ht hi hz0 hz1 hz2 hzs hsz v n xs hs (hown.alloc _) ⟨w.heap.size, 0, none⟩ 1 1 cs.toList hx (by simp [hcs]) ?_ h1 h63 hbytes (by simp; omega) ?_
  · intro j u hj
    have hadd : (⟨w.heap.size, 0, none⟩ : Addr).add j = ⟨w.heap.size, j, none⟩ := by unfold Addr.add; split <;> simp_all
    rw [hadd, World.cell?_alloc_at _ _ _ _ rfl]
    simpa using hj
  · intro v' w' hown' hg _
    exact h v' w' hown' (grown_trans (World.grownBy_alloc w _ _) hg)


/-- append onto a row of the call's own, whatever the source is (a slice, a text) -/
theorem run_append_src {P : Program} (w : World) (base : Nat) (t tx ty e : TypeId) (i : TypeInfo) (z : Value) (size bytes : Nat) (ht : P.underlying t = some (.slice e)) (hi : P.info? e = some i) (hz : i.zero = some z)
    (hsize : i.size = size) (hby : i.bytes = bytes) (hzs : z.cells.size = size)
    (v : Value) (n : Nat) (xs : List Value) (hown : w.ownsRow base e size v n xs)
    (x : Value) (m : Nat) (news : List Value) (hs : Src P size tx x m news w)
    (h63 : n + m ≤ maxLen) (hbytes : (n + m) * bytes ≤ 140737488355328) (hbase : base ≤ w.heap.size) :
    ∃ v' w', (Builtin.append_ #[t, tx] ty #[v, x]).run P w = .ok v' w' ∧ w'.ownsRow base e size v' (n + m) (xs ++ news) ∧ w.grownBy w' v.ownBlock := by
  subst hsize
  subst hby
  have hl := hs.newsLen
  have hsmall : n + m ≤ 9223372036854775807 := by simp only [maxLen] at h63; omega
  have hlen : (xs ++ news).length = (n + m) * i.size := by rw [List.length_append, hown.1, hl, Nat.add_mul]
  have grown : ∀ (old : Nat), old < n + m → ∀ (row : Option Nat),
      (w.drew.alloc (.cells ((xs ++ news).toArray ++ Builtin.zeroCells z.cells (grownCap w (n + m) old e - (n + m))) e)).ownsRow base e i.size
        (.slice (some ⟨w.heap.size, 0, none⟩) (n + m) (grownCap w (n + m) old e)) (n + m) (xs ++ news) ∧
      w.grownBy (w.drew.alloc (.cells ((xs ++ news).toArray ++ Builtin.zeroCells z.cells (grownCap w (n + m) old e - (n + m))) e)) row := by
    intro old ho row
    have hge := grownCap_ge w (n + m) old e
    have hcm : grownCap w (n + m) old e ≤ maxLen := grownCap_le_maxLen w (n + m) old e h63
    refine ⟨⟨hlen, .inr ⟨w.heap.size, _, _, rfl, hbase, heap_alloc_new w.drew _, hge, hcm, ?_, ?_⟩⟩, ⟨rfl, rfl, rfl, by simp, fun k hk _ => heap_alloc_old w.drew _ hk⟩⟩
    · simp only [Array.size_append, List.size_toArray, size_zeroCells, hzs, hlen, ← Nat.add_mul]
      congr 1
      omega
    · simp only [Array.toList_append]
      rw [← hlen]
      exact List.take_left
  rcases hown.2 with ⟨rfl, rfl⟩ | ⟨g, cap, cur, rfl, hbg, hg, hnc, hcm, hcs, htake⟩
  · have hx : xs = [] := List.eq_nil_of_length_eq_zero (by simpa using hown.1)
    subst hx
    by_cases hm : m = 0
    · subst hm
      have hn : news = [] := List.eq_nil_of_length_eq_zero (by simpa using hl)
      subst hn
      refine ⟨.slice none 0 0, w, ?_, World.ownsRow_nil w base e i.size, ⟨rfl, rfl, rfl, Nat.le_refl _, fun _ _ _ => rfl⟩⟩
      rcases hs.kind with ⟨e', hk⟩ | hk <;> simp [Builtin.append_, run_underlying ht, run_underlying hk, sizeOf, typeInfo, hi, hs.len, hs.cells]
    · have hr := run_append_grow_src (P := P) w t tx ty e i z ht hi hz none 0 0 [] (by simp [Builtin.firstCells]) x m news hs (by omega) (by omega) (growslice_fits (by omega) hbytes)
      have hgr := grown 0 (by omega) (Value.ownBlock (.slice none 0 0))
      exact ⟨_, _, hr, hgr.1, hgr.2⟩
  · by_cases hroom : n + m ≤ cap
    · have hfit : n * i.size + news.length ≤ cur.size := by rw [hl, hcs, ← Nat.add_mul]; exact Nat.mul_le_mul_right _ hroom
      have hst := run_storeCells_at P g (n * i.size) e news 0 cur w hg (by simpa using hfit) hs.one
      simp only [Nat.add_zero] at hst
      have hr : (Builtin.append_ #[t, tx] ty #[.slice (some ⟨g, 0, none⟩) n cap, x]).run P w =
          .ok (.slice (some ⟨g, 0, none⟩) (n + m) cap) (w.setRow g (cur.toList.take (n * i.size) ++ news ++ cur.toList.drop (n * i.size + news.length)).toArray) := by
        rcases hs.kind with ⟨e', hk⟩ | hk <;> simp [Builtin.append_, run_underlying ht, run_underlying hk, sizeOf, typeInfo, hi, hs.len, hroom, hs.cells, Addr.add_lit, hst]
      refine ⟨_, _, hr, ⟨hlen, .inr ⟨g, cap, _, rfl, hbg, setRow_heap w g cur _ e _ hg, hroom, hcm, ?_, ?_⟩⟩, ⟨rfl, rfl, rfl, by simp, fun k _ hk => setRow_other w g k _ (fun e => hk (by simp [Value.ownBlock, e]))⟩⟩
      · simp only [List.size_toArray, List.length_append, List.length_take, List.length_drop, Array.length_toList]
        omega
      · rw [htake, ← hlen]
        exact List.take_left
    · have holds : ∀ j u, xs[j]? = some u → w.cell? ((⟨g, 0, none⟩ : Addr).add j) = some u := hown.cells (g := g) rfl
      have hr := run_append_grow_src (P := P) w t tx ty e i z ht hi hz (some ⟨g, 0, none⟩) n cap xs (run_firstCells_some w.drew i.size n ⟨g, 0, none⟩ n cap xs hown.1 (by simpa using holds)) x m news hs (by omega) (by omega) (growslice_fits (by omega) hbytes)
      have hgr := grown cap (by omega) (Value.ownBlock (.slice (some ⟨g, 0, none⟩) n cap))
      exact ⟨_, _, hr, hgr.1, hgr.2⟩

theorem wpList_append_src {P : Program} {w : World} {ops : Array Oper} {rest : List Oper} {o : Oper} {a : Act} {Q : Exit → Act → World → Prop} (hgd : o.guard = none) (s x : Operand) (t tx : TypeId)
    (ho : o.op = .call { callee := .builtin .append, args := #[s, x], argTypes := #[t, tx] })
    (base : Nat) (e : TypeId) (z : Value) (size bytes : Nat) (ht : P.underlying t = some (.slice e))
    (hinfo : (P.info? e).map (fun i => (i.zero, i.size, i.bytes)) = some (some z, size, bytes)) (hzs : z.cells.size = size)
    (v : Value) (n : Nat) (xs : List Value) (hs : a.eval s = v) (hown : w.ownsRow base e size v n xs)
    (xv : Value) (m : Nat) (news : List Value) (hx : a.eval x = xv) (hsrc : Src P size tx xv m news w)
    (h63 : n + m ≤ maxLen) (hbytes : (n + m) * bytes ≤ 140737488355328) (hbase : base ≤ w.heap.size)
    (h : ∀ v' w', w'.ownsRow base e size v' (n + m) (xs ++ news) → w.grownBy w' v.ownBlock → wpList P ops Q rest (a.put o.dst v') w') :
    wpList P ops Q (o :: rest) a w := by
  obtain ⟨i, hi, hz0, hz1, hz2⟩ := info_parts hinfo
  refine wpList_plain hgd fun K hK => ?_
  obtain ⟨v', w', hr, h2, h3⟩ := run_append_src (P := P) w base t tx o.type e i z size bytes ht hi hz0 hz1 hz2 hzs v n xs hown xv m news hsrc h63 hbytes hbase
  unfold Oper.wp execOp
  simp only [ho, resolve, invoke, builtin, Sem.run_bind, Sem.run_pure, Result.andThen_ok, List.map_toArray, List.map_cons, List.map_nil, hs, hx, hr]
  exact hK _ _ (h v' w' h2 h3)

theorem owns_slice {w : World} {base : Nat} {e : TypeId} {size : Nat} {v : Value} {n : Nat} {xs : List Value} (h : w.ownsRow base e size v n xs) : ∃ a c, v = .slice a n c := by
  rcases h.2 with ⟨rfl, rfl⟩ | ⟨g, cap, cur, rfl, _⟩
  · exact ⟨_, _, rfl⟩
  · exact ⟨_, _, rfl⟩

/-- bytes that were just laid, as a text -/
theorem run_toStr_new {P : Program} (w : World) (src dst e : TypeId) (n c : Nat) (ns : List Int) (hn : ns.length = n)
    (hs : P.underlying src = some (.slice e)) (he : P.underlying e = some (.int .u8)) (hd : P.underlying dst = some .string) :
    (convert src dst (.slice (some ⟨w.heap.size, 0, none⟩) n c)).run P (w.alloc (.cells (ns.map (Value.int .u8)).toArray e)) =
      .ok (.string ⟨(ns.map (fun x => UInt8.ofNat x.toNat)).toArray⟩) (w.alloc (.cells (ns.map (Value.int .u8)).toArray e)) := by
  have hl : (loadCells ⟨w.heap.size, 0, none⟩ n).run P (w.alloc (.cells (ns.map (Value.int .u8)).toArray e)) = .ok (ns.map (Value.int .u8)).toArray (w.alloc (.cells (ns.map (Value.int .u8)).toArray e)) := by
    have := run_loadCells_list (P := P) (w := w.alloc (.cells (ns.map (Value.int .u8)).toArray e)) ⟨w.heap.size, 0, none⟩ (ns.map (Value.int .u8)) (fun j v hj => by
      have hadd : (⟨w.heap.size, 0, none⟩ : Addr).add j = ⟨w.heap.size, j, none⟩ := by unfold Addr.add; split <;> simp_all
      rw [hadd, World.cell?_alloc_at _ _ _ _ rfl]
      simpa using hj)
    simpa [hn] using this
  rw [run_convert_bytes_string _ src dst e _ _ _ hs he hd, run_bytesToString _ _ _ _ ns hl]
  congr 2
  have : ∀ (ns : List Int) (l : List UInt8), ns.foldl (fun r n => r.push (UInt8.ofNat n.toNat)) (ByteArray.mk l.toArray) = ByteArray.mk (l ++ ns.map (fun x => UInt8.ofNat x.toNat)).toArray := by
    intro ns
    induction ns with
    | nil => intro l; simp
    | cons x ns ih =>
      intro l
      have e : (ByteArray.mk l.toArray).push (UInt8.ofNat x.toNat) = ByteArray.mk (l ++ [UInt8.ofNat x.toNat]).toArray := by simp [ByteArray.push]
      rw [List.foldl_cons, e, ih]
      simp
  exact this ns []
/-- the bytes of a row that the call owns, as a text -/
theorem run_toStr_own {P : Program} (w : World) (src dst e : TypeId) (base n : Nat) (v : Value) (xs : List UInt8)
    (hs : P.underlying src = some (.slice e)) (he : P.underlying e = some (.int .u8)) (hd : P.underlying dst = some .string)
    (h : w.ownsRow base e 1 v n (xs.map fun c => .int .u8 c.toNat)) :
    (convert src dst v).run P w = .ok (.string ⟨xs.toArray⟩) w := by
  have hlen := h.1
  rcases h.2 with ⟨rfl, rfl⟩ | ⟨g, cap, cur, rfl, hr⟩
  · obtain rfl : xs = [] := by simpa using hlen
    rw [run_convert_bytes_string _ src dst e _ _ _ hs he hd]
    simp [Conv.bytesToString]
    rfl
  · rw [run_convert_bytes_string _ src dst e _ _ _ hs he hd]
    have hc := h.cells (g := g) rfl
    have hl := run_loadCells_list (P := P) (w := w) ⟨g, 0, none⟩ _ hc
    have e1 : (xs.map fun c => Value.int .u8 c.toNat) = (xs.map fun c => (c.toNat : Int)).map (Value.int .u8) := by simp
    have e2 : (xs.map fun c => Value.int .u8 c.toNat).length = n := by simpa using hlen
    rw [e2] at hl
    rw [e1] at hl
    rw [run_bytesToString _ _ _ _ _ hl]
    congr 2
    have : ∀ (ns : List UInt8) (l : List UInt8), (ns.map fun c => (c.toNat : Int)).foldl (fun r n => r.push (UInt8.ofNat n.toNat)) (ByteArray.mk l.toArray) = ByteArray.mk (l ++ ns).toArray := by
      intro ns
      induction ns with
      | nil => intro l; simp
      | cons x ns ih =>
        intro l
        have e : (ByteArray.mk l.toArray).push (UInt8.ofNat (x.toNat : Int).toNat) = ByteArray.mk (l ++ [x]).toArray := by simp [ByteArray.push]
        rw [List.map_cons, List.foldl_cons, e, ih]
        simp
    exact this xs []

/-- a slice of integers that is only read -/
def Ints (w : World) (v : Value) (l : List Int) : Prop :=
  ∃ ao cap, v = .slice ao l.length cap ∧ (l ≠ [] → ∃ b off, ao = some ⟨b, off, none⟩ ∧ ∀ j x, l[j]? = some x → w.cell? ⟨b, off + j, none⟩ = some (.int .i64 x)) ∧ l.length ≤ maxLen
theorem Ints.of_own {w : World} {base : Nat} {e : TypeId} {v : Value} {n : Nat} {l : List Int} (h : w.ownsRow base e 1 v n (l.map (Value.int .i64))) : Ints w v l := by
  have hlen := h.1
  simp at hlen
  subst hlen
  rcases h.2 with ⟨rfl, h0⟩ | ⟨g, cap, cur, rfl, hb, hg, hn, hc, hs, ht⟩
  · refine ⟨none, 0, by rw [h0], fun hne => (hne (List.eq_nil_of_length_eq_zero h0)).elim, by rw [h0]; exact Nat.zero_le _⟩
  · refine ⟨_, _, rfl, fun _ => ⟨g, 0, rfl, fun j x hj => ?_⟩, Nat.le_trans hn hc⟩
    have := h.cells (g := g) rfl j (.int .i64 x) (by simp [hj])
    have hadd : (⟨g, 0, none⟩ : Addr).add j = ⟨g, 0 + j, none⟩ := by unfold Addr.add; split <;> simp_all
    rwa [hadd] at this
theorem Ints.mono {w w' : World} {v : Value} {l : List Int} (h : Ints w v l) (hb : Go.RowKit.Below w.heap.size w w') : Ints w' v l := by
  obtain ⟨ao, cap, rfl, hc, hm⟩ := h
  refine ⟨ao, cap, rfl, fun hne => ?_, hm⟩
  obtain ⟨b, off, rfl, hj⟩ := hc hne
  refine ⟨b, off, rfl, fun j x hx => ?_⟩
  have h1 := hj j x hx
  rw [hb.cell (p := ⟨b, off + j, none⟩) (World.block_lt_of_cell? _ _ h1)]
  exact h1

theorem own_base {w : World} {base base' : Nat} {e : TypeId} {size : Nat} {v : Value} {n : Nat} {xs : List Value} (h : w.ownsRow base e size v n xs) (hb : base' ≤ base) : w.ownsRow base' e size v n xs := by
  obtain ⟨h1, h2⟩ := h
  refine ⟨h1, ?_⟩
  rcases h2 with h2 | ⟨g, cap, cur, hv, hg, r⟩
  · exact Or.inl h2
  · exact Or.inr ⟨g, cap, cur, hv, Nat.le_trans hb hg, r⟩
theorem hp_set_other {w : World} {a : Addr} {v : Value} {k : Nat} {o : Obj} (h : w.heap[k]? = some o) (hk : a.block ≠ k) : (w.setCell a v).heap[k]? = some o := by rw [heap_setCell, if_neg hk, h]

theorem grown_below {w w' : World} {b B : Nat} (hg : w.grownBy w' (some b)) (hB : B ≤ b) (hs : B ≤ w.heap.size) : Go.RowKit.Below B w w' :=
  ⟨hg.os, hg.tape, hg.output, hg.size, fun k hk => hg.block k (by omega) (by simp; omega)⟩
theorem below_own {w w' : World} {base B : Nat} {e : TypeId} {size : Nat} {v : Value} {n : Nat} {xs : List Value} (h : w.ownsRow base e size v n xs) (hg : w.grownBy w' v.ownBlock) (hB : B ≤ base) (hs : B ≤ w.heap.size) : Go.RowKit.Below B w w' :=
  ⟨hg.os, hg.tape, hg.output, hg.size, fun k hk => hg.block k (by omega) (fun e => by have := (h.lt k e.symm).1; omega)⟩

theorem below_drewN {B : Nat} {w w' : World} (h : Go.RowKit.Below B w w') (n : Nat) : Go.RowKit.Below B w (w'.drewN n) := ⟨h.os, h.tape, h.output, h.size, h.block⟩

/-- a row that the call owns, as the source of an append -/
theorem src_own {P : Program} {w : World} {base : Nat} {e e' tx : TypeId} {size : Nat} {v : Value} {n : Nat} {xs : List Value} (hk : P.underlying tx = some (.slice e')) (h : w.ownsRow base e size v n xs) (h1 : ∀ u ∈ xs, u.oneCell' = true) : Src P size tx v n xs w := by
  have hlen := h.1
  rcases h.2 with ⟨rfl, rfl⟩ | ⟨g, cap, cur, rfl, hr⟩
  · obtain rfl : xs = [] := List.eq_nil_of_length_eq_zero (by simpa using hlen)
    exact Src.ofNil w hk 0
  · exact Src.ofSlice w hk _ _ _ _ hlen (h.cells (g := g) rfl) h1

theorem below_grown {w w' : World} (h : Go.RowKit.Below w.heap.size w w') (r : Option Nat) : w.grownBy w' r := ⟨h.os, h.tape, h.output, h.size, fun k hk _ => h.block k hk⟩
theorem own_below {w w' : World} {base : Nat} {e : TypeId} {size : Nat} {v : Value} {n : Nat} {xs : List Value} (h : w.ownsRow base e size v n xs) (hb : Go.RowKit.Below w.heap.size w w') : w'.ownsRow base e size v n xs :=
  h.kept (below_grown hb none) (by cases v.ownBlock <;> simp)

/-- a block that was just laid, as the source of an append -/
theorem src_new {P : Program} {w : World} {e e' tx : TypeId} {size n : Nat} (hk : P.underlying tx = some (.slice e')) (cs : Array Value) (c : Nat) (hcs : cs.size = n * size) (h1 : ∀ u ∈ cs.toList, u.oneCell' = true) :
    Src P size tx (.slice (some ⟨w.heap.size, 0, none⟩) n c) n cs.toList (w.alloc (.cells cs e)) :=
  Src.ofSlice _ hk _ _ _ _ (by simpa using hcs) (fun j u hj => by
    have hadd : (⟨w.heap.size, 0, none⟩ : Addr).add j = ⟨w.heap.size, j, none⟩ := by unfold Addr.add; split <;> simp_all
    rw [hadd, World.cell?_alloc_at _ _ _ _ rfl]
    simpa using hj) h1

theorem lt_of_cell {w : World} {a : Addr} {v : Value} (h : w.cell? a = some v) : a.block < w.heap.size := World.block_lt_of_cell? _ _ h

theorem own_other {w : World} {base : Nat} {e : TypeId} {size : Nat} {v : Value} {n : Nat} {xs : List Value} (h : w.ownsRow base e size v n xs) {b : Nat} (hb : b < base) : some b ≠ v.ownBlock :=
  fun e => by have := (h.lt b e.symm).1; omega
theorem grown_own {w w1 w2 : World} {base : Nat} {e : TypeId} {size : Nat} {v : Value} {n : Nat} {xs : List Value} {r : Option Nat} (hg : w.grownBy w1 r) (ho : w1.ownsRow base e size v n xs) (hb : w.heap.size ≤ base) (h : w1.grownBy w2 v.ownBlock) : w.grownBy w2 r :=
  ⟨h.os.trans hg.os, h.tape.trans hg.tape, h.output.trans hg.output, Nat.le_trans hg.size h.size, fun k hk hn => (h.block k (Nat.lt_of_lt_of_le hk hg.size) (own_other ho (by omega))).trans (hg.block k hk hn)⟩

end Go.Proofs.YtnmlkoidmacinaaDoor.Mm
