/-
  The built-in append where there is room, clear behind a slice's end.
-/
import Derived.Test.YtlknkhmhdmpdkaaCl
import Derived.Test.YtlknkhmhdmpdkaaLf
namespace Go.Proofs.Ytlknkhmhdmpdkaa.Mm
open Go.RowKit
set_option linter.unusedVariables false
set_option linter.unusedSimpArgs false

theorem run_append_fit {P : Program} (w : World) (base : Nat) (t tx ty e : TypeId) (i : TypeInfo) (size : Nat) (ht : P.underlying t = some (.slice e)) (hi : P.info? e = some i)
    (hsize : i.size = size) (g n cap : Nat) (xs : List Value) (hown : w.ownsRow base e size (.slice (some ⟨g, 0, none⟩) n cap) n xs)
    (x : Value) (m : Nat) (news : List Value) (hs : Src P size tx x m news w) (hroom : n + m ≤ cap) :
    ∃ w', (Builtin.append_ #[t, tx] ty #[.slice (some ⟨g, 0, none⟩) n cap, x]).run P w = .ok (.slice (some ⟨g, 0, none⟩) (n + m) cap) w' ∧ w'.ownsRow base e size (.slice (some ⟨g, 0, none⟩) (n + m) cap) (n + m) (xs ++ news) ∧ w.grownBy w' (some g) := by
  subst hsize
  have hl := hs.newsLen
  have hlen : (xs ++ news).length = (n + m) * i.size := by rw [List.length_append, hown.1, hl, Nat.add_mul]
  rcases hown.2 with ⟨hv, _⟩ | ⟨g', cap', cur, hv, hbg, hg, hnc, hcm, hcs, htake⟩
  · cases hv
  · injection hv with e1 e2 e3
    injection e1 with e1
    injection e1 with e1
    subst e1 e3
    have hfit : n * i.size + news.length ≤ cur.size := by rw [hl, hcs, ← Nat.add_mul]; exact Nat.mul_le_mul_right _ hroom
    have hst := run_storeCells_at P g (n * i.size) e news 0 cur w hg (by simpa using hfit) hs.one
    simp only [Nat.add_zero] at hst
    have hr : (Builtin.append_ #[t, tx] ty #[.slice (some ⟨g, 0, none⟩) n cap, x]).run P w =
        .ok (.slice (some ⟨g, 0, none⟩) (n + m) cap) (w.setRow g (cur.toList.take (n * i.size) ++ news ++ cur.toList.drop (n * i.size + news.length)).toArray) := by
      rcases hs.kind with ⟨e', hk⟩ | hk <;> simp [Builtin.append_, run_underlying ht, run_underlying hk, sizeOf, typeInfo, hi, hs.len, hroom, hs.cells, Addr.add_lit, hst]
    refine ⟨_, hr, ⟨hlen, .inr ⟨g, cap, _, rfl, hbg, setRow_heap w g cur _ e _ hg, hroom, hcm, ?_, ?_⟩⟩, ⟨rfl, rfl, rfl, by simp, fun k _ hk => setRow_other w g k _ (fun e => hk (by simp [e]))⟩⟩
    · simp only [List.size_toArray, List.length_append, List.length_take, List.length_drop, Array.length_toList]
      omega
    · rw [htake, ← hlen]
      exact List.take_left
theorem step_append_fit {P : Program} {w : World} {ops : Array Oper} {o : Oper} {a : Act} {K : Act → World → Prop} {Q : Exit → Act → World → Prop} {E : Prop} (hgd : o.guard = none) (s x : Operand) (t tx : TypeId)
    (ho : o.op = .call { callee := .builtin .append, args := #[s, x], argTypes := #[t, tx] })
    (base : Nat) (e : TypeId) (z : Value) (size bytes : Nat) (ht : P.underlying t = some (.slice e))
    (hinfo : (P.info? e).map (fun i => (i.zero, i.size, i.bytes)) = some (some z, size, bytes))
    (g n cap : Nat) (xs : List Value) (hs : a.eval s = .slice (some ⟨g, 0, none⟩) n cap) (hown : w.ownsRow base e size (.slice (some ⟨g, 0, none⟩) n cap) n xs)
    (xv : Value) (m : Nat) (news : List Value) (hx : a.eval x = xv) (hsrc : Src P size tx xv m news w) (hroom : n + m ≤ cap)
    (h : ∀ w', w'.ownsRow base e size (.slice (some ⟨g, 0, none⟩) (n + m) cap) (n + m) (xs ++ news) → w.grownBy w' (some g) → K (a.put o.dst (.slice (some ⟨g, 0, none⟩) (n + m) cap)) w') :
    if Region.wanted o (yielded ops a.tmps) = true then Oper.wp P o a w K Q else E := by
  have hw : Region.wanted o (yielded ops a.tmps) = true := by simp [Region.wanted, hgd]
  rw [if_pos hw]
  obtain ⟨i, hi, hz0, hz1, hz2⟩ := info_parts hinfo
  obtain ⟨w', hr, h2, h3⟩ := run_append_fit (P := P) w base t tx o.type e i size ht hi hz1 g n cap xs hown xv m news hsrc hroom
  unfold Oper.wp execOp
  simp only [ho, resolve, invoke, builtin, Sem.run_bind, Sem.run_pure, Result.andThen_ok, List.map_toArray, List.map_cons, List.map_nil, hs, hx, hr]
  exact h w' h2 h3
theorem own_clear_at {P : Program} {w : World} {S : Nat} {t e : TypeId} {size n g cap : Nat} {xs : List Value} {z : Value} (h : w.ownsRow S e size (.slice (some ⟨g, 0, none⟩) n cap) n xs) (ht : P.underlying t = some (.slice e)) (hv : ∀ w, (zeroValue e).run P w = .ok z w) (hz : z.cells.size = size) (h1 : ∀ u ∈ z.cells.toList, u.oneCell' = true) {k cnt : Nat} (hk : k ≤ n) (h0 : 0 < cnt) (hkc : k + cnt ≤ cap) (hS : S ≤ w.heap.size) (c : Nat) :
    ∃ w', (∀ ty, (Builtin.clear_ #[t] ty #[.slice (some ⟨g, k * size, none⟩) cnt c]).run P w = .ok (.tuple #[]) w') ∧ w'.ownsRow S e size (.slice (some ⟨g, 0, none⟩) k cap) k (xs.take (k * size)) ∧ Below S w w' := by
  have hl := h.1
  rcases h.2 with ⟨hv', _⟩ | ⟨g', cap', cur, hv', hb, hg, hn, hc, hs, hx⟩
  · cases hv'
  · injection hv' with e1 e2 e3
    injection e1 with e1
    injection e1 with e1
    subst e1 e3
    obtain ⟨zs, hzs⟩ : ∃ zs, zs = (Builtin.zeroCells z.cells cnt).toList := ⟨_, rfl⟩
    have hzl : zs.length = cnt * size := by rw [hzs, zeros_len, hz]
    have hks : k * size + cnt * size ≤ cap * size := by rw [← Nat.add_mul]; exact Nat.mul_le_mul_right _ hkc
    have hst := run_storeCells_at (P := P) g (k * size) e zs 0 cur w hg (by rw [Nat.add_zero, hzl, hs]; exact hks) (by rw [hzs]; exact zeros_one h1 _)
    rw [Nat.add_zero] at hst
    obtain ⟨new, hnew⟩ : ∃ new, new = (cur.toList.take (k * size) ++ zs ++ cur.toList.drop (k * size + zs.length)).toArray := ⟨_, rfl⟩
    rw [← hnew] at hst
    have hcl : cur.toList.length = cap * size := by simpa using hs
    have hns : new.size = cap * size := by
      rw [hnew]
      simp only [List.size_toArray, List.length_append, List.length_take, List.length_drop]
      rw [hcl, hzl]
      omega
    refine ⟨w.setRow g new, fun ty => ?_, ⟨?_, Or.inr ⟨g, _, new, rfl, hb, setRow_heap w g cur new e (0, 0) hg, by omega, hc, hns, ?_⟩⟩, ?_⟩
    · obtain ⟨m, hm⟩ : ∃ m, cnt = m + 1 := ⟨cnt - 1, by omega⟩
      rw [hm] at hzs ⊢
      rw [hzs] at hst
      simp [Builtin.clear_, run_underlying ht, hv, hst]
    · rw [List.length_take, hl]
      have : k * size ≤ n * size := Nat.mul_le_mul_right _ (by omega)
      omega
    · have hkc : k * size ≤ cap * size := Nat.mul_le_mul_right _ (by omega)
      have hkn : k * size ≤ n * size := Nat.mul_le_mul_right _ (by omega)
      rw [hnew]
      simp only [List.append_assoc]
      rw [List.take_append_of_le_length (by rw [List.length_take, hcl]; omega), List.take_take, Nat.min_self, ← hx, List.take_take, Nat.min_eq_left hkn]
    · exact ⟨rfl, rfl, rfl, by simp, fun j hj => setRow_other w g j new (by omega)⟩
end Go.Proofs.Ytlknkhmhdmpdkaa.Mm
