/-
  Rows of one's own: single cells, clear, append where there is room, two of them apart.
-/
import Derived.Test.YtnmlkoidmacinaaDoorRep
import Derived.Test.YtnmlkoidmacinaaDoorCx
import Derived.Deep.RegionLaw
import Derived.Lib.Hide
namespace Go.Proofs.YtnmlkoidmacinaaDoor.Mm
open Go.RowKit
set_option linter.unusedVariables false
set_option linter.unusedSimpArgs false

theorem own_put {w : World} {S : Nat} {e : TypeId} {size n g cap : Nat} {xs : List Value} (h : w.ownsRow S e size (.slice (some ⟨g, 0, none⟩) n cap) n xs) (i : Nat) (u : Value) : (w.setCell ⟨g, i, none⟩ u).ownsRow S e size (.slice (some ⟨g, 0, none⟩) n cap) n (xs.set i u) := by
  refine ⟨by rw [List.length_set]; exact h.1, ?_⟩
  rcases h.2 with ⟨hv, _⟩ | ⟨g', cap', cur, hv, hb, hg, hn, hc, hs, ht⟩
  · cases hv
  · injection hv with e1 e2 e3
    injection e1 with e1
    injection e1 with e1
    subst e1 e3
    refine Or.inr ⟨g, _, cur.setIfInBounds i u, rfl, hb, by rw [heap_setCell, if_pos rfl, hg]; simp [storeIn], hn, hc, by simpa using hs, ?_⟩
    rw [Array.toList_setIfInBounds, List.take_set, ht]
theorem own_free {w : World} {S : Nat} {e : TypeId} {size n g cap : Nat} {xs : List Value} (h : w.ownsRow S e size (.slice (some ⟨g, 0, none⟩) n cap) n xs) (i : Nat) : w.frozen? ⟨g, i, none⟩ = false := by
  rcases h.2 with ⟨hv, _⟩ | ⟨g', cap', cur, hv, hb, hg, hn, hc, hs, ht⟩
  · cases hv
  · injection hv with e1 e2 e3
    injection e1 with e1
    injection e1 with e1
    subst e1
    exact free_n hg i
theorem own_cell {w : World} {S : Nat} {e : TypeId} {size n g cap : Nat} {xs : List Value} (h : w.ownsRow S e size (.slice (some ⟨g, 0, none⟩) n cap) n xs) {i : Nat} {u : Value} (hu : xs[i]? = some u) : w.cell? ⟨g, i, none⟩ = some u := by
  have := h.cells (g := g) rfl i u hu
  have hadd : (⟨g, 0, none⟩ : Addr).add i = ⟨g, i, none⟩ := by unfold Addr.add; split <;> simp_all
  rwa [hadd] at this
theorem own_lt {w : World} {S : Nat} {e : TypeId} {size n g cap : Nat} {xs : List Value} (h : w.ownsRow S e size (.slice (some ⟨g, 0, none⟩) n cap) n xs) : n ≤ cap ∧ cap ≤ 9223372036854775807 ∧ S ≤ g ∧ g < w.heap.size := by
  rcases h.2 with ⟨hv, _⟩ | ⟨g', cap', cur, hv, hb, hg, hn, hc, hs, ht⟩
  · cases hv
  · injection hv with e1 e2 e3
    injection e1 with e1
    injection e1 with e1
    subst e1 e3
    exact ⟨hn, by unfold maxLen at hc; omega, hb, lt_of_block hg⟩
theorem zeros_len (z : Array Value) (n : Nat) : (Builtin.zeroCells z n).toList.length = n * z.size := by simp [Builtin.zeroCells]
theorem zeros_one {z : Array Value} (h : ∀ u ∈ z.toList, u.oneCell' = true) (n : Nat) : ∀ u ∈ (Builtin.zeroCells z n).toList, u.oneCell' = true := by
  intro u hu
  simp only [Builtin.zeroCells, Array.toList_map, List.mem_map] at hu
  obtain ⟨i, hi, rfl⟩ := hu
  have hi2 : i < n * z.size := by simpa using hi
  have hz : 0 < z.size := by
    rcases Nat.eq_zero_or_pos z.size with h0 | h0
    · rw [h0] at hi2; omega
    · exact h0
  have hm : i % z.size < z.size := Nat.mod_lt _ hz
  refine h _ ?_
  rw [getElem!_pos z (i % z.size) hm]
  exact Array.getElem_mem_toList hm
theorem own_clear {P : Program} {w : World} {S : Nat} {t e : TypeId} {size n g cap : Nat} {xs : List Value} {z : Value} (h : w.ownsRow S e size (.slice (some ⟨g, 0, none⟩) n cap) n xs) (ht : P.underlying t = some (.slice e)) (hv : ∀ w, (zeroValue e).run P w = .ok z w) (hz : z.cells.size = size) (h1 : ∀ u ∈ z.cells.toList, u.oneCell' = true) {k : Nat} (hk : k < n) (hS : S ≤ w.heap.size) (c : Nat) :
    ∃ w', (∀ ty, (Builtin.clear_ #[t] ty #[.slice (some ⟨g, k * size, none⟩) (n - k) c]).run P w = .ok (.tuple #[]) w') ∧ w'.ownsRow S e size (.slice (some ⟨g, 0, none⟩) k cap) k (xs.take (k * size)) ∧ Below S w w' := by
  have hl := h.1
  rcases h.2 with ⟨hv', _⟩ | ⟨g', cap', cur, hv', hb, hg, hn, hc, hs, hx⟩
  · cases hv'
  · injection hv' with e1 e2 e3
    injection e1 with e1
    injection e1 with e1
    subst e1 e3
    obtain ⟨zs, hzs⟩ : ∃ zs, zs = (Builtin.zeroCells z.cells (n - k)).toList := ⟨_, rfl⟩
    have hzl : zs.length = (n - k) * size := by rw [hzs, zeros_len, hz]
    have hks : k * size + (n - k) * size = n * size := by rw [← Nat.add_mul]; congr 1; omega
    have hnc : n * size ≤ cap * size := Nat.mul_le_mul_right _ hn
    have hst := run_storeCells_at (P := P) g (k * size) e zs 0 cur w hg (by rw [Nat.add_zero, hzl, hks, hs]; exact hnc) (by rw [hzs]; exact zeros_one h1 _)
    rw [Nat.add_zero] at hst
    obtain ⟨new, hnew⟩ : ∃ new, new = (cur.toList.take (k * size) ++ zs ++ cur.toList.drop (k * size + zs.length)).toArray := ⟨_, rfl⟩
    rw [← hnew] at hst
    have hcl : cur.toList.length = cap * size := by simpa using hs
    have hns : new.size = cap * size := by
      rw [hnew]
      simp only [List.size_toArray, List.length_append, List.length_take, List.length_drop]
      rw [hcl, hzl]
      omega
    refine ⟨w.setRow g new, fun ty => ?_, ⟨?_, Or.inr ⟨g, _, new, rfl, hb, setRow_heap w g cur new e (0, 0) hg, by omega, hc, hns, ?_⟩⟩, ?_⟩
    · obtain ⟨m, hm⟩ : ∃ m, n - k = m + 1 := ⟨n - k - 1, by omega⟩
      rw [hm] at hzs ⊢
      rw [hzs] at hst
      simp [Builtin.clear_, run_underlying ht, hv, hst]
    · rw [List.length_take, hl]
      have : k * size ≤ n * size := Nat.mul_le_mul_right _ (by omega)
      omega
    · have hkc : k * size ≤ cap * size := Nat.mul_le_mul_right _ (by omega)
      have hkn : k * size ≤ n * size := Nat.mul_le_mul_right _ (by omega)
      rw [hnew]
      simp only [List.append_assoc]
      rw [List.take_append_of_le_length (by rw [List.length_take, hcl]; omega), List.take_take, Nat.min_self, ← hx, List.take_take, Nat.min_eq_left hkn]
    · exact ⟨rfl, rfl, rfl, by simp, fun j hj => setRow_other w g j new (by omega)⟩
theorem run_append_fit {P : Program} (w : World) (base : Nat) (t tx ty e : TypeId) (i : TypeInfo) (size : Nat) (ht : P.underlying t = some (.slice e)) (hi : P.info? e = some i)
    (hsize : i.size = size) (g n cap : Nat) (xs : List Value) (hown : w.ownsRow base e size (.slice (some ⟨g, 0, none⟩) n cap) n xs)
    (x : Value) (m : Nat) (news : List Value) (hs : Src P size tx x m news w) (hroom : n + m ≤ cap) :
    ∃ w', (Builtin.append_ #[t, tx] ty #[.slice (some ⟨g, 0, none⟩) n cap, x]).run P w = .ok (.slice (some ⟨g, 0, none⟩) (n + m) cap) w' ∧ w'.ownsRow base e size (.slice (some ⟨g, 0, none⟩) (n + m) cap) (n + m) (xs ++ news) ∧ w.grownBy w' (some g) := by
  subst hsize
  have hl := hs.newsLen
  have hlen : (xs ++ news).length = (n + m) * i.size := by rw [List.length_append, hown.1, hl, Nat.add_mul]
  rcases hown.2 with ⟨hv, _⟩ | ⟨g', cap', cur, hv, hbg, hg, hnc, hcm, hcs, htake⟩
  · cases hv
  · injection hv with e1 e2 e3
    injection e1 with e1
    injection e1 with e1
    subst e1 e3
    have hfit : n * i.size + news.length ≤ cur.size := by rw [hl, hcs, ← Nat.add_mul]; exact Nat.mul_le_mul_right _ hroom
    have hst := run_storeCells_at P g (n * i.size) e news 0 cur w hg (by simpa using hfit) hs.one
    simp only [Nat.add_zero] at hst
    have hr : (Builtin.append_ #[t, tx] ty #[.slice (some ⟨g, 0, none⟩) n cap, x]).run P w =
        .ok (.slice (some ⟨g, 0, none⟩) (n + m) cap) (w.setRow g (cur.toList.take (n * i.size) ++ news ++ cur.toList.drop (n * i.size + news.length)).toArray) := by
      rcases hs.kind with ⟨e', hk⟩ | hk <;> simp [Builtin.append_, run_underlying ht, run_underlying hk, sizeOf, typeInfo, hi, hs.len, hroom, hs.cells, Addr.add_lit, hst]
    refine ⟨_, hr, ⟨hlen, .inr ⟨g, cap, _, rfl, hbg, setRow_heap w g cur _ e _ hg, hroom, hcm, ?_, ?_⟩⟩, ⟨rfl, rfl, rfl, by simp, fun k _ hk => setRow_other w g k _ (fun e => hk (by simp [e]))⟩⟩
    · simp only [List.size_toArray, List.length_append, List.length_take, List.length_drop, Array.length_toList]
      omega
    · rw [htake, ← hlen]
      exact List.take_left
theorem step_append_fit {P : Program} {w : World} {ops : Array Oper} {o : Oper} {a : Act} {K : Act → World → Prop} {Q : Exit → Act → World → Prop} {E : Prop} (hgd : o.guard = none) (s x : Operand) (t tx : TypeId)
    (ho : o.op = .call { callee := .builtin .append, args := #[s, x], argTypes := #[t, tx] })
    (base : Nat) (e : TypeId) (z : Value) (size bytes : Nat) (ht : P.underlying t = some (.slice e))
    (hinfo : (P.info? e).map (fun i => (i.zero, i.size, i.bytes)) = some (some z, size, bytes))
    (g n cap : Nat) (xs : List Value) (hs : a.eval s = .slice (some ⟨g, 0, none⟩) n cap) (hown : w.ownsRow base e size (.slice (some ⟨g, 0, none⟩) n cap) n xs)
    (xv : Value) (m : Nat) (news : List Value) (hx : a.eval x = xv) (hsrc : Src P size tx xv m news w) (hroom : n + m ≤ cap)
    (h : ∀ w', w'.ownsRow base e size (.slice (some ⟨g, 0, none⟩) (n + m) cap) (n + m) (xs ++ news) → w.grownBy w' (some g) → K (a.put o.dst (.slice (some ⟨g, 0, none⟩) (n + m) cap)) w') :
    if Region.wanted o (yielded ops a.tmps) = true then Oper.wp P o a w K Q else E := by
  have hw : Region.wanted o (yielded ops a.tmps) = true := by simp [Region.wanted, hgd]
  rw [if_pos hw]
  obtain ⟨i, hi, hz0, hz1, hz2⟩ := info_parts hinfo
  obtain ⟨w', hr, h2, h3⟩ := run_append_fit (P := P) w base t tx o.type e i size ht hi hz1 g n cap xs hown xv m news hsrc hroom
  unfold Oper.wp execOp
  simp only [ho, resolve, invoke, builtin, Sem.run_bind, Sem.run_pure, Result.andThen_ok, List.map_toArray, List.map_cons, List.map_nil, hs, hx, hr]
  exact h w' h2 h3
theorem own_clear_at {P : Program} {w : World} {S : Nat} {t e : TypeId} {size n g cap : Nat} {xs : List Value} {z : Value} (h : w.ownsRow S e size (.slice (some ⟨g, 0, none⟩) n cap) n xs) (ht : P.underlying t = some (.slice e)) (hv : ∀ w, (zeroValue e).run P w = .ok z w) (hz : z.cells.size = size) (h1 : ∀ u ∈ z.cells.toList, u.oneCell' = true) {k cnt : Nat} (hk : k ≤ n) (h0 : 0 < cnt) (hkc : k + cnt ≤ cap) (hS : S ≤ w.heap.size) (c : Nat) :
    ∃ w', (∀ ty, (Builtin.clear_ #[t] ty #[.slice (some ⟨g, k * size, none⟩) cnt c]).run P w = .ok (.tuple #[]) w') ∧ w'.ownsRow S e size (.slice (some ⟨g, 0, none⟩) k cap) k (xs.take (k * size)) ∧ Below S w w' := by
  have hl := h.1
  rcases h.2 with ⟨hv', _⟩ | ⟨g', cap', cur, hv', hb, hg, hn, hc, hs, hx⟩
  · cases hv'
  · injection hv' with e1 e2 e3
    injection e1 with e1
    injection e1 with e1
    subst e1 e3
    obtain ⟨zs, hzs⟩ : ∃ zs, zs = (Builtin.zeroCells z.cells cnt).toList := ⟨_, rfl⟩
    have hzl : zs.length = cnt * size := by rw [hzs, zeros_len, hz]
    have hks : k * size + cnt * size ≤ cap * size := by rw [← Nat.add_mul]; exact Nat.mul_le_mul_right _ hkc
    have hst := run_storeCells_at (P := P) g (k * size) e zs 0 cur w hg (by rw [Nat.add_zero, hzl, hs]; exact hks) (by rw [hzs]; exact zeros_one h1 _)
    rw [Nat.add_zero] at hst
    obtain ⟨new, hnew⟩ : ∃ new, new = (cur.toList.take (k * size) ++ zs ++ cur.toList.drop (k * size + zs.length)).toArray := ⟨_, rfl⟩
    rw [← hnew] at hst
    have hcl : cur.toList.length = cap * size := by simpa using hs
    have hns : new.size = cap * size := by
      rw [hnew]
      simp only [List.size_toArray, List.length_append, List.length_take, List.length_drop]
      rw [hcl, hzl]
      omega
    refine ⟨w.setRow g new, fun ty => ?_, ⟨?_, Or.inr ⟨g, _, new, rfl, hb, setRow_heap w g cur new e (0, 0) hg, by omega, hc, hns, ?_⟩⟩, ?_⟩
    · obtain ⟨m, hm⟩ : ∃ m, cnt = m + 1 := ⟨cnt - 1, by omega⟩
      rw [hm] at hzs ⊢
      rw [hzs] at hst
      simp [Builtin.clear_, run_underlying ht, hv, hst]
    · rw [List.length_take, hl]
      have : k * size ≤ n * size := Nat.mul_le_mul_right _ (by omega)
      omega
    · have hkc : k * size ≤ cap * size := Nat.mul_le_mul_right _ (by omega)
      have hkn : k * size ≤ n * size := Nat.mul_le_mul_right _ (by omega)
      rw [hnew]
      simp only [List.append_assoc]
      rw [List.take_append_of_le_length (by rw [List.length_take, hcl]; omega), List.take_take, Nat.min_self, ← hx, List.take_take, Nat.min_eq_left hkn]
    · exact ⟨rfl, rfl, rfl, by simp, fun j hj => setRow_other w g j new (by omega)⟩
/-- two rows of one's own of two types of elements lie in two blocks -/
theorem own_ne {w : World} {b1 b2 : Nat} {e1 e2 : TypeId} {s1 s2 n1 n2 : Nat} {v1 v2 : Value} {x1 x2 : List Value} (h1 : w.ownsRow b1 e1 s1 v1 n1 x1) (h2 : w.ownsRow b2 e2 s2 v2 n2 x2) (hne : e1 ≠ e2) : v1.ownBlock = none ∨ v1.ownBlock ≠ v2.ownBlock := by
  rcases h1.2 with ⟨rfl, _⟩ | ⟨g1, c1, k1, rfl, _, hg1, _⟩
  · exact Or.inl rfl
  · rcases h2.2 with ⟨rfl, _⟩ | ⟨g2, c2, k2, rfl, _, hg2, _⟩
    · exact Or.inr (by simp [Value.ownBlock])
    · refine Or.inr (fun e => ?_)
      have e' : g1 = g2 := by simpa [Value.ownBlock] using e
      subst e'
      rw [hg1] at hg2
      injection hg2 with h
      injection h with _ h3 _
      exact hne h3
theorem own_lit (w : World) (e : TypeId) (size n : Nat) (cs : Array Value) (h : cs.size = n * size) (hn : n ≤ maxLen) : (w.alloc (.cells cs e)).ownsRow w.heap.size e size (.slice (some ⟨w.heap.size, 0, none⟩) n n) n cs.toList :=
  ⟨by simpa using h, Or.inr ⟨w.heap.size, n, cs, rfl, Nat.le_refl _, hp_at _ _ rfl, Nat.le_refl _, hn, h, by rw [← h]; exact List.take_length⟩⟩
theorem sl_part {α : Type} {size : Nat} {row : α → List Value} {F : Nat → Prop} {w : World} {ao : Option Addr} {cap p n : Nat} {L : List α} (h : Sl size (Plain row) F w (.slice ao L.length cap) L) (hp : p + n ≤ L.length) :
    ∃ av, Sl size (Plain row) F w (.slice av n (cap - p)) ((L.drop p).take n) ∧ ((ao = none ∧ av = none ∧ L = [] ∧ cap = 0 ∧ p = 0 ∧ n = 0) ∨ ∃ a, ao = some a ∧ ((cap = p ∧ n = 0 ∧ av = some a) ∨ (cap ≠ p ∧ av = some (a.add (p * size))))) := by
  have hdl : (L.drop p).length = L.length - p := List.length_drop
  have hnl : ((L.drop p).take n).length = n := by rw [List.length_take, hdl]; omega
  obtain ⟨_, _, he, hcap, hmax⟩ := h.slice
  injection he with e1 e2 e3
  subst e1
  subst e3
  have hemp : ∀ (av : Option Addr) (c : Nat), (av = none → c = 0) → n = 0 → Sl size (Plain row) F w (.slice av n c) ((L.drop p).take n) := by
    intro av c hz hn
    subst hn
    exact ⟨av, c, by rw [hnl], ⟨by rw [hnl]; omega, fun h => hz h⟩, by rw [hnl]; omega, fun h => absurd rfl h⟩
  cases ao with
  | none =>
    obtain ⟨rfl, rfl⟩ := h.isNil
    have h0 : p = 0 := by simp at hp; omega
    have h1 : n = 0 := by simp at hp; omega
    exact ⟨none, hemp _ _ (fun _ => by omega) h1, Or.inl ⟨rfl, rfl, rfl, rfl, h0, h1⟩⟩
  | some a =>
    by_cases hcm : cap = p
    · have h1 : n = 0 := by omega
      exact ⟨some a, hemp _ _ (fun h => by cases h) h1, Or.inr ⟨a, rfl, Or.inl ⟨hcm, h1, rfl⟩⟩⟩
    · by_cases h0 : 0 < L.length
      · obtain ⟨b, off, e, _, _⟩ := h.all h0
        injection e with e
        subst e
        have hadd : (⟨b, off, none⟩ : Addr).add (p * size) = ⟨b, off + p * size, none⟩ := by unfold Addr.add; split <;> simp_all
        have hq := Sl.drop h (k := p) (by omega)
        rw [← hdl] at hq
        have hq2 := hq.take (k := n) (by omega)
        exact ⟨_, hq2, Or.inr ⟨_, rfl, Or.inr ⟨hcm, by rw [hadd]⟩⟩⟩
      · exact ⟨some (a.add (p * size)), hemp _ _ (fun h => by cases h) (by omega), Or.inr ⟨a, rfl, Or.inr ⟨hcm, rfl⟩⟩⟩
/-- append from any source, at a step of a region that draws its order -/
theorem step_append_src {P : Program} {w : World} {ops : Array Oper} {o : Oper} {a : Act} {K : Act → World → Prop} {Q : Exit → Act → World → Prop} {E : Prop} (hgd : o.guard = none) (s x : Operand) (t tx : TypeId)
    (ho : o.op = .call { callee := .builtin .append, args := #[s, x], argTypes := #[t, tx] })
    (base : Nat) (e : TypeId) (z : Value) (size bytes : Nat) (ht : P.underlying t = some (.slice e))
    (hinfo : (P.info? e).map (fun i => (i.zero, i.size, i.bytes)) = some (some z, size, bytes)) (hzs : z.cells.size = size)
    (v : Value) (n : Nat) (xs : List Value) (hs : a.eval s = v) (hown : w.ownsRow base e size v n xs)
    (xv : Value) (m : Nat) (news : List Value) (hx : a.eval x = xv) (hsrc : Src P size tx xv m news w)
    (h63 : n + m ≤ maxLen) (hbytes : (n + m) * bytes ≤ 140737488355328) (hbase : base ≤ w.heap.size)
    (h : ∀ v' w', w'.ownsRow base e size v' (n + m) (xs ++ news) → w.grownBy w' v.ownBlock → K (a.put o.dst v') w') :
    if Region.wanted o (yielded ops a.tmps) = true then Oper.wp P o a w K Q else E := by
  have hw : Region.wanted o (yielded ops a.tmps) = true := by simp [Region.wanted, hgd]
  rw [if_pos hw]
  obtain ⟨i, hi, hz0, hz1, hz2⟩ := info_parts hinfo
  obtain ⟨v', w', hr, h2, h3⟩ := run_append_src (P := P) w base t tx o.type e i z size bytes ht hi hz0 hz1 hz2 hzs v n xs hown xv m news hsrc h63 hbytes hbase
  unfold Oper.wp execOp
  simp only [ho, resolve, invoke, builtin, Sem.run_bind, Sem.run_pure, Result.andThen_ok, List.map_toArray, List.map_cons, List.map_nil, hs, hx, hr]
  exact h v' w' h2 h3
end Go.Proofs.YtnmlkoidmacinaaDoor.Mm
