/-
  The law KvExact, walked: it answers true.
-/
import Derived.Test.YtnmlkoidmacinaaDoorKu
import Derived.Deep.DeepCutAuto
import Derived.Deep.RegionWith
namespace Go.Proofs.YtnmlkoidmacinaaDoor
open Go.RowKit Wm Mm Dg Kv
set_option linter.unusedVariables false
set_option linter.unusedSimpArgs false

theorem putK_len (l : List PairP) (key val : List UInt8) : (putK l key val).1.length ≤ l.length + 1 := by
  unfold putK
  split
  · show l.length ≤ _; omega
  · exact putL_len _ _ _
theorem doK_len (l : List PairP) (c : CmdP) : (doK l c).1.length ≤ l.length + 1 := by
  unfold doK
  split
  · exact putK_len _ _ _
  split
  · exact putK_len _ _ _
  split
  · split
    · show l.length ≤ _; omega
    · split
      · show l.length ≤ _; omega
      · exact putK_len _ _ _
  split
  · show l.length ≤ _; omega
  split
  · show l.length ≤ _; omega
  split
  · show (l.eraseIdx _).length ≤ _
    have := List.length_eraseIdx_le l (place l c.key)
    omega
  · show l.length ≤ _; omega
theorem applyK_len (l : List PairP) (c : CmdP) : (applyK l c).1.length ≤ l.length ∨ (applyK l c).1.length ≤ 33 := by
  unfold applyK
  cases h : isCommand c.kind c.key c.val c.iff && pairsB l
  · exact Or.inl (Nat.le_refl _)
  · rw [if_pos rfl]
    rw [Bool.and_eq_true] at h
    have h1 := (pairsB_ok h.2).n
    have h2 := doK_len l c
    exact Or.inr (by omega)
theorem keysK_len (l : List PairP) (key : List UInt8) (n : Int) : (keysK l key n).length ≤ l.length := by
  unfold keysK lim
  have h1 : (((l.drop (place l key)).takeWhile (fun p => pre key p.key)).map PairP.key).length ≤ l.length := by
    rw [List.length_map]
    have h2 := (List.takeWhile_prefix (fun p : PairP => pre key p.key) (l := l.drop (place l key))).length_le
    rw [List.length_drop] at h2
    omega
  split
  · exact h1
  · rw [List.length_take]; omega
theorem applyK_keys (l : List PairP) (c : CmdP) : (applyK l c).2.keys.length ≤ l.length := by
  have hz : ∀ (x : List PairP) (kd : Int) (vl : List UInt8) (vr : Int), (x, (⟨kd, vl, vr, []⟩ : ResV)).2.keys.length ≤ l.length := fun _ _ _ _ => Nat.zero_le _
  have hp : ∀ v, (putK l c.key v).2.keys.length ≤ l.length := fun v => by rw [(putK_val l c.key v).2]; exact Nat.zero_le _
  unfold applyK doK
  split
  · split
    · exact hp _
    split
    · exact hp _
    split
    · split
      · exact hz _ _ _ _
      split
      · exact hz _ _ _ _
      · exact hp _
    split
    · exact keysK_len l c.key c.iff
    split
    · exact hz _ _ _ _
    split
    · exact hz _ _ _ _
    · exact hz _ _ _ _
  · exact hz _ _ _ _
theorem first_k : applyK [] ⟨1, [107], [118], 0⟩ = ([⟨[107], [118], 1⟩], ⟨1, [], 1, []⟩) := by kernel_rfl
abbrev Cmds (F : Nat → Prop) (w : World) (v : Value) (l : List CmdP) : Prop := Sl 4 (Plain rowCmd) F w v l
theorem Sl.cmd {F : Nat → Prop} {w : World} {a : Option Addr} {n c : Nat} {l : List CmdP} (h : Cmds F w (.slice a n c) l) {k : Nat} (hk : k < l.length) :
    ∃ b off, a = some ⟨b, off, none⟩ ∧ w.cell? ⟨b, off + k * 4, none⟩ = some (.int .i64 l[k].kind) ∧ w.cell? ⟨b, off + k * 4 + 1, none⟩ = some (str l[k].key) ∧ w.cell? ⟨b, off + k * 4 + 2, none⟩ = some (str l[k].val) ∧ w.cell? ⟨b, off + k * 4 + 3, none⟩ = some (.int .i64 l[k].iff) := by
  obtain ⟨b, off, us, e, _, _, hus, hcs⟩ := h.at hk
  have hus' : us = rowCmd l[k] := hus
  subst hus'
  exact ⟨b, off, e, by have := hcs 0 _ rfl; rwa [Nat.add_zero] at this, hcs 1 _ rfl, hcs 2 _ rfl, hcs 3 _ rfl⟩

/-- what kv.Apply gave, and its result in a box -/
structure Got (V W : World) (l : List PairP) (r : ResV) (av kv : Value) (T : Nat) : Prop where
  ha : OwnP V.heap.size W av l
  hk : W.ownsRow V.heap.size 9 1 kv r.keys.length (r.keys.flatMap rowText)
  tt : W.heap[T]? = some (.cells (rowRes r.kind r.val r.ver kv).toArray 56 (0, 0))
  bel : Below V.heap.size V W
  hT : V.heap.size ≤ T
theorem Got.late {V V' V3 : World} {l : List PairP} {r : ResV} {av kv : Value} (h0 : Below V.heap.size V V') (hb : Below V'.heap.size V' V3) (ha : OwnP V'.heap.size V3 av l) (hk : V3.ownsRow V'.heap.size 9 1 kv r.keys.length (r.keys.flatMap rowText)) :
    Got V (V3.alloc (.cells (rowRes r.kind r.val r.ver kv).toArray 56)) l r av kv V3.heap.size := by
  have h1 := h0.size
  have h2 := hb.size
  have h3 : Below V.heap.size V V3 := h0.trans (hb.mono h1)
  exact ⟨own_base (ha.alloc _) h1, own_base (hk.alloc _) h1, hp_at _ _ rfl, h3.alloc (by omega) _, by omega⟩
theorem Got.soon {V U V3 : World} {l : List PairP} {r : ResV} {av kv : Value} (hU : (V.alloc (.cells zeroRes.toArray 56)).drew = U) (hb : Below U.heap.size U V3) (ha : OwnP U.heap.size V3 av l) (hk : V3.ownsRow U.heap.size 9 1 kv r.keys.length (r.keys.flatMap rowText)) :
    Got V (setAll V3 V.heap.size (rowRes r.kind r.val r.ver kv)) l r av kv V.heap.size := by
  have hs : U.heap.size = V.heap.size + 1 := by rw [← hU]; show (V.alloc _).heap.size = _; simp
  have h0 : U.heap[V.heap.size]? = some (.cells zeroRes.toArray 56 (0, 0)) := by rw [← hU]; exact hp_at _ _ rfl
  have hV : Below V.heap.size V U := by rw [← hU]; exact ((Below.refl _ _).alloc (Nat.le_refl _) _).drew
  have h3 : V3.heap[V.heap.size]? = some (.cells zeroRes.toArray 56 (0, 0)) := (hb.block _ (by omega)).trans h0
  have hc := setFrom_chg V.heap.size (rowRes r.kind r.val r.ver kv) V3 0
  refine ⟨own_chg (own_base ha (by omega)) hc (fun g h1 h2 => ?_), own_chg (own_base hk (by omega)) hc (fun g h1 h2 => ?_), setAll_at (xs := zeroRes) h3 _ rfl, setAll_below (hV.trans (hb.mono (by omega))) (Nat.le_refl _) _, Nat.le_refl _⟩
  · have e' : g = V.heap.size := h2
    have := (ha.lt g h1).1
    omega
  · have e' : g = V.heap.size := h2
    have := (hk.lt g h1).1
    omega

end Go.Proofs.YtnmlkoidmacinaaDoor
