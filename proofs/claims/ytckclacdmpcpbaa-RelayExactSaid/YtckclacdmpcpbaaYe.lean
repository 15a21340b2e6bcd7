/-
  Three hosts that talk, as an object: its cells, its parts, each in blocks of its own.
-/
import Derived.Test.YtckclacdmpcpbaaYd
namespace Go.Proofs.Ytckclacdmpcpbaa
open Go.RowKit Wm Mm Rl
set_option linter.unusedVariables false
set_option linter.unusedSimpArgs false

abbrev rowS (s : List UInt8) : List Value := [str s]
theorem rowS_len (s : List UInt8) : (rowS s).length = 1 := rfl
theorem rowS_one (s : List UInt8) : ∀ u ∈ rowS s, u.oneCell' = true := by intro u hu; simp at hu; subst hu; rfl
theorem info_str : (Try.prog.info? 9).map (fun i => (i.zero, i.size, i.bytes)) = some (some (.string ByteArray.empty), 1, 16) := by kernel_rfl
theorem info_relp : (Try.prog.info? 23).map (fun i => (i.zero, i.size, i.bytes)) = some (some (.pointer none), 1, 8) := by kernel_rfl
/-- the cells of three hosts that talk -/
def cellsT (hv wv : Value) (sv cv : Nat → Value) (kn : Nat → Int) : List Value := hv :: wv :: ((List.range 16).map sv ++ ((List.range 16).map cv ++ (List.range 16).map fun k => .int .i64 (kn k)))
abbrev blkT (hv wv : Value) (sv cv : Nat → Value) (kn : Nat → Int) : Obj := .cells (cellsT hv wv sv cv kn).toArray 58 (0, 0)
theorem sixteen {k : Nat} (h : k < 16) : k = 0 ∨ k = 1 ∨ k = 2 ∨ k = 3 ∨ k = 4 ∨ k = 5 ∨ k = 6 ∨ k = 7 ∨ k = 8 ∨ k = 9 ∨ k = 10 ∨ k = 11 ∨ k = 12 ∨ k = 13 ∨ k = 14 ∨ k = 15 := by omega
section
variable (hv wv : Value) (sv cv : Nat → Value) (kn : Nat → Int)
theorem cellsT_hosts : (cellsT hv wv sv cv kn).toArray[0]? = some hv := rfl
theorem cellsT_way : (cellsT hv wv sv cv kn).toArray[1]? = some wv := rfl
theorem cellsT_sent {k : Nat} (h : k < 16) : (cellsT hv wv sv cv kn).toArray[2 + k]? = some (sv k) := by
  rcases sixteen h with rfl | rfl | rfl | rfl | rfl | rfl | rfl | rfl | rfl | rfl | rfl | rfl | rfl | rfl | rfl | rfl <;> rfl
theorem cellsT_came {k : Nat} (h : k < 16) : (cellsT hv wv sv cv kn).toArray[18 + k]? = some (cv k) := by
  rcases sixteen h with rfl | rfl | rfl | rfl | rfl | rfl | rfl | rfl | rfl | rfl | rfl | rfl | rfl | rfl | rfl | rfl <;> rfl
theorem cellsT_known {k : Nat} (h : k < 16) : (cellsT hv wv sv cv kn).toArray[34 + k]? = some (.int .i64 (kn k)) := by
  rcases sixteen h with rfl | rfl | rfl | rfl | rfl | rfl | rfl | rfl | rfl | rfl | rfl | rfl | rfl | rfl | rfl | rfl <;> rfl
theorem cellsT_setHosts (v : Value) : (cellsT hv wv sv cv kn).toArray.setIfInBounds 0 v = (cellsT v wv sv cv kn).toArray := rfl
theorem cellsT_setWay (v : Value) : (cellsT hv wv sv cv kn).toArray.setIfInBounds 1 v = (cellsT hv v sv cv kn).toArray := rfl
theorem cellsT_setSent {k : Nat} (h : k < 16) (v : Value) : (cellsT hv wv sv cv kn).toArray.setIfInBounds (2 + k) v = (cellsT hv wv (upd sv k v) cv kn).toArray := by
  rcases sixteen h with rfl | rfl | rfl | rfl | rfl | rfl | rfl | rfl | rfl | rfl | rfl | rfl | rfl | rfl | rfl | rfl <;> rfl
theorem cellsT_setCame {k : Nat} (h : k < 16) (v : Value) : (cellsT hv wv sv cv kn).toArray.setIfInBounds (18 + k) v = (cellsT hv wv sv (upd cv k v) kn).toArray := by
  rcases sixteen h with rfl | rfl | rfl | rfl | rfl | rfl | rfl | rfl | rfl | rfl | rfl | rfl | rfl | rfl | rfl | rfl <;> rfl
theorem cellsT_setKnown {k : Nat} (h : k < 16) (n : Int) : (cellsT hv wv sv cv kn).toArray.setIfInBounds (34 + k) (.int .i64 n) = (cellsT hv wv sv cv (upd kn k n)).toArray := by
  rcases sixteen h with rfl | rfl | rfl | rfl | rfl | rfl | rfl | rfl | rfl | rfl | rfl | rfl | rfl | rfl | rfl | rfl <;> rfl
end
theorem blkT_set {w : World} {T : Nat} {hv wv : Value} {sv cv : Nat → Value} {kn : Nat → Int} (h : w.heap[T]? = some (blkT hv wv sv cv kn)) (i : Nat) (v : Value) :
    (w.setCell ⟨T, i, none⟩ v).heap[T]? = some (.cells ((cellsT hv wv sv cv kn).toArray.setIfInBounds i v) 58 (0, 0)) := by
  rw [heap_setCell, if_pos rfl, h]; rfl

/-- a row lies in blocks of zone c -/
def Zn (z : Nat → Nat) (v : Value) (c : Nat) : Prop := ∀ g, v.ownBlock = some g → z g = c
/-- blocks from n on are of zone d -/
def zon (z : Nat → Nat) (n d : Nat) : Nat → Nat := fun g => if n ≤ g then d else z g
theorem zon_low {z : Nat → Nat} {n d g : Nat} (h : g < n) : zon z n d g = z g := by unfold zon; rw [if_neg (by omega)]
theorem zon_new {z : Nat → Nat} {n d g : Nat} (h : n ≤ g) : zon z n d g = d := by unfold zon; rw [if_pos h]
theorem zon_or {z : Nat → Nat} {n d g : Nat} (h : z g = d ∨ n ≤ g) : zon z n d g = d := by
  rcases Nat.lt_or_ge g n with h1 | h1
  · rw [zon_low h1]; rcases h with h | h
    · exact h
    · omega
  · exact zon_new h1
section
variable {z : Nat → Nat} {w w' : World} {c d : Nat}
theorem rez_own {base : Nat} {e : TypeId} {size : Nat} {v : Value} {n : Nat} {xs : List Value} (h : w.ownsRow base e size v n xs) (hz : Zn z v c) (hc : Chg (fun g => z g = d) w w') (hcd : c ≠ d) : w'.ownsRow base e size v n xs ∧ Zn (zon z w.heap.size d) v c :=
  ⟨own_chg h hc (fun g hg e => hcd (by rw [← hz g hg, e])), fun g hg => by rw [zon_low (h.lt g hg).2]; exact hz g hg⟩
theorem rez_rel {B : Nat} {r : RelP} (h : RelX (fun g => z g = c) w B r) (hc : Chg (fun g => z g = d) w w') (hcd : c ≠ d) : RelX (fun g => zon z w.heap.size d g = c) w' B r := by
  have h1 : RelX (fun g => z g = c ∧ g < w.heap.size) w B r := h.weak (fun g h1 h2 => ⟨h2, h1⟩)
  exact (h1.agree (hc.agree (fun g h2 e => hcd (by rw [← h2.1, e])))).weak (fun g _ h2 => by rw [zon_low h2.2]; exact h2.1)
theorem rez_fam {α : Type} {e : TypeId} {size : Nat} {row : α → List Value} {n : Nat} {vs : Nat → Value} {ls : Nat → List α} (h : Fam e size row n (fun g => z g = c) w vs ls) (hc : Chg (fun g => z g = d) w w') (hcd : c ≠ d) : Fam e size row n (fun g => zon z w.heap.size d g = c) w' vs ls := by
  have h1 : Fam e size row n (fun g => z g = c ∧ g < w.heap.size) w vs ls := h.weak (fun g h1 h2 => ⟨h2, h1⟩)
  exact (h1.agree (hc.agree (fun g h2 e => hcd (by rw [← h2.1, e])))).weak (fun g _ h2 => by rw [zon_low h2.2]; exact h2.1)
end
/-- what the talk has beside its own block -/
structure Parts (m : Nat) (z : Nat → Nat) (w : World) (hv wv : Value) (sv cv : Nat → Value) (Bs : Nat → Nat) (t : TalkP) : Prop where
  le : m ≤ 3
  hosts : w.ownsRow 0 23 1 hv m ((List.range m).map fun i => .pointer (some ⟨Bs i, 0, none⟩)) ∧ Zn z hv 1
  rel : ∀ i, i < m → RelX (fun g => z g = 2 + i) w (Bs i) (t.hosts i)
  way : OwnP w wv t.way ∧ Zn z wv 5
  sent : Fam 9 1 rowS 16 (fun g => z g = 6) w sv t.sent
  came : Fam 9 1 rowS 16 (fun g => z g = 7) w cv t.came
section
variable {m : Nat} {z : Nat → Nat} {w w' : World} {hv wv : Value} {sv cv : Nat → Value} {Bs : Nat → Nat} {t : TalkP}
theorem Parts.agree (h : Parts m z w hv wv sv cv Bs t) (ha : Agree (fun g => 1 ≤ z g ∧ z g ≤ 7) w w') : Parts m z w' hv wv sv cv Bs t :=
  ⟨h.le, ⟨own_agree h.hosts.1 ha (fun g hg => by rw [h.hosts.2 g hg]; omega), h.hosts.2⟩,
    fun i hi => (h.rel i hi).agree (ha.sub (fun g (hg : z g = 2 + i) => by have := h.le; omega)),
    ⟨own_agree h.way.1 ha (fun g hg => by rw [h.way.2 g hg]; omega), h.way.2⟩,
    h.sent.agree (ha.sub (fun g (hg : z g = 6) => by omega)), h.came.agree (ha.sub (fun g (hg : z g = 7) => by omega))⟩
theorem Parts.chg0 (h : Parts m z w hv wv sv cv Bs t) (hc : Chg (fun g => z g = 0) w w') : Parts m z w' hv wv sv cv Bs t := h.agree (hc.agree (fun g hg e => by omega))
theorem Parts.new (h : Parts m z w hv wv sv cv Bs t) (hb : Below w.heap.size w w') : Parts m z w' hv wv sv cv Bs t := h.agree (Agree.below hb)
theorem Parts.known (h : Parts m z w hv wv sv cv Bs t) (kn : Nat → Int) : Parts m z w hv wv sv cv Bs { t with known := kn } := ⟨h.le, h.hosts, h.rel, h.way, h.sent, h.came⟩
theorem Parts.putRel (h : Parts m z w hv wv sv cv Bs t) {i : Nat} (hi : i < m) {r : RelP} (hr : RelX (fun g => z g = 2 + i ∨ w.heap.size ≤ g) w' (Bs i) r) (hc : Chg (fun g => z g = 2 + i) w w') :
    Parts m (zon z w.heap.size (2 + i)) w' hv wv sv cv Bs { t with hosts := upd t.hosts i r } := by
  have hle := h.le
  refine ⟨h.le, rez_own h.hosts.1 h.hosts.2 hc (by omega), fun j hj => ?_, rez_own h.way.1 h.way.2 hc (by omega), rez_fam h.sent hc (by omega), rez_fam h.came hc (by omega)⟩
  show RelX _ _ _ (upd t.hosts i r j)
  by_cases hji : j = i
  · subst hji; rw [upd_same]; exact hr.weak (fun g _ hg => zon_or hg)
  · rw [upd_ne _ _ hji]; exact rez_rel (h.rel j hj) hc (by omega)
theorem Parts.putWay (h : Parts m z w hv wv sv cv Bs t) {v : Value} {l : List PktP} (ho : OwnP w' v l) (hb : ∀ g, v.ownBlock = some g → z g = 5 ∨ w.heap.size ≤ g) (hc : Chg (fun g => z g = 5) w w') :
    Parts m (zon z w.heap.size 5) w' hv v sv cv Bs { t with way := l } := by
  have hle := h.le
  exact ⟨h.le, rez_own h.hosts.1 h.hosts.2 hc (by omega), fun j hj => rez_rel (h.rel j hj) hc (by omega), ⟨ho, fun g hg => zon_or (hb g hg)⟩, rez_fam h.sent hc (by omega), rez_fam h.came hc (by omega)⟩
theorem Parts.putSent (h : Parts m z w hv wv sv cv Bs t) {k : Nat} (hk : k < 16) {v : Value} {l : List (List UInt8)} (hg : w.grownBy w' (sv k).ownBlock) (ho : w'.ownsRow 0 9 1 v l.length (l.flatMap rowS)) (hb : ∀ g, v.ownBlock = some g → (sv k).ownBlock = some g ∨ w.heap.size ≤ g) :
    Parts m (zon z w.heap.size 6) w' hv wv (upd sv k v) cv Bs { t with sent := upd t.sent k l } ∧ Chg (fun g => z g = 6) w w' := by
  have hle := h.le
  have hc : Chg (fun g => z g = 6) w w' := Chg.grown hg (fun b e => h.sent.foot k hk b e)
  exact ⟨⟨h.le, rez_own h.hosts.1 h.hosts.2 hc (by omega), fun j hj => rez_rel (h.rel j hj) hc (by omega), rez_own h.way.1 h.way.2 hc (by omega), (h.sent.put hk hg ho hb).weak (fun g _ hg => zon_or hg), rez_fam h.came hc (by omega)⟩, hc⟩
theorem Parts.putCame (h : Parts m z w hv wv sv cv Bs t) {k : Nat} (hk : k < 16) {v : Value} {l : List (List UInt8)} (hg : w.grownBy w' (cv k).ownBlock) (ho : w'.ownsRow 0 9 1 v l.length (l.flatMap rowS)) (hb : ∀ g, v.ownBlock = some g → (cv k).ownBlock = some g ∨ w.heap.size ≤ g) :
    Parts m (zon z w.heap.size 7) w' hv wv sv (upd cv k v) Bs { t with came := upd t.came k l } ∧ Chg (fun g => z g = 7) w w' := by
  have hle := h.le
  have hc : Chg (fun g => z g = 7) w w' := Chg.grown hg (fun b e => h.came.foot k hk b e)
  exact ⟨⟨h.le, rez_own h.hosts.1 h.hosts.2 hc (by omega), fun j hj => rez_rel (h.rel j hj) hc (by omega), rez_own h.way.1 h.way.2 hc (by omega), rez_fam h.sent hc (by omega), (h.came.put hk hg ho hb).weak (fun g _ hg => zon_or hg)⟩, hc⟩
end
/-- the talk at block T -/
structure TalkX (m : Nat) (z : Nat → Nat) (w : World) (T : Nat) (t : TalkP) : Prop where
  ex : ∃ (hv wv : Value) (sv cv : Nat → Value) (Bs : Nat → Nat), w.heap[T]? = some (blkT hv wv sv cv t.known) ∧ Parts m z w hv wv sv cv Bs t
  zone : z T = 0
/-- what a call on the talk does: its own blocks, and new ones -/
structure TalkC (z z' : Nat → Nat) (w w' : World) : Prop where
  chg : Chg (fun g => z g ≤ 7) w w'
  own : ∀ g, z' g ≤ 7 → z g ≤ 7 ∨ w.heap.size ≤ g
theorem TalkC.refl (z : Nat → Nat) (w : World) : TalkC z z w w := ⟨Chg.refl _ _, fun g h => Or.inl h⟩
theorem TalkC.trans {z1 z2 z3 : Nat → Nat} {a b c : World} (h : TalkC z1 z2 a b) (k : TalkC z2 z3 b c) : TalkC z1 z3 a c :=
  ⟨h.chg.comp k.chg (fun i hi hz => (h.own i hz).elim id (fun e => by omega)), fun g hg => by
    rcases k.own g hg with h1 | h1
    · exact h.own g h1
    · exact Or.inr (Nat.le_trans h.chg.size h1)⟩
theorem TalkC.of {z : Nat → Nat} {w w' : World} {d : Nat} (hd : d ≤ 7) (hc : Chg (fun g => z g = d) w w') : TalkC z (zon z w.heap.size d) w w' :=
  ⟨hc.mono (fun g _ h => by omega), fun g hg => by
    rcases Nat.lt_or_ge g w.heap.size with h | h
    · rw [zon_low h] at hg; exact Or.inl hg
    · exact Or.inr h⟩
theorem TalkC.same {z : Nat → Nat} {w w' : World} {d : Nat} (hd : d ≤ 7) (hc : Chg (fun g => z g = d) w w') : TalkC z z w w' := ⟨hc.mono (fun g _ h => by omega), fun g hg => Or.inl hg⟩
theorem TalkC.new (z : Nat → Nat) {w w' : World} (hb : Below w.heap.size w w') : TalkC z z w w' := ⟨Chg.fresh _ hb, fun g hg => Or.inl hg⟩
theorem TalkX.new {m : Nat} {z : Nat → Nat} {w w' : World} {T : Nat} {t : TalkP} (h : TalkX m z w T t) (hb : Below w.heap.size w w') : TalkX m z w' T t := by
  obtain ⟨⟨hv, wv, sv, cv, Bs, h1, h2⟩, h3⟩ := h
  exact ⟨⟨hv, wv, sv, cv, Bs, (hb.block T (lt_of_block h1)).trans h1, h2.new hb⟩, h3⟩

theorem pick_law (c : Int) (n : Nat) (w : World) (hn : 0 < n) (hn2 : n ≤ 4294967296) (hc : -9223372036854775808 ≤ c ∧ c ≤ 9223372036854775807) : Calls Try.prog 31 #[.int .i64 c, .int .i64 n] w fun e w' => e = .returned (.int .i64 (c % (n : Int))) ∧ w = w' := by
  have hn0 : ((n : Int) == 0) = false := beq_eq_false_iff_ne.2 (by omega)
  have h1 := Int.emod_nonneg c (show (n : Int) ≠ 0 by omega)
  have h2 := Int.emod_lt_of_pos c (show 0 < (n : Int) by omega)
  obtain ⟨r, hr⟩ := hide (c.tmod (n : Int))
  have hrw : c.tmod (n : Int) = r := hr.out
  have hrb : -(n : Int) < r ∧ r < (n : Int) := by
    rw [← hr.out]
    exact ⟨by have := Int.lt_tmod_of_pos c (show 0 < (n : Int) by omega); omega, Int.tmod_lt_of_pos c (show 0 < (n : Int) by omega)⟩
  have hem : c % (n : Int) = if r < 0 then r + n else r := by
    have hd : (n : Int) ∣ (c - r) := by rw [← hr.out]; exact ⟨c.tdiv n, by have := Int.mul_tdiv_add_tmod c n; omega⟩
    obtain ⟨k, hk⟩ := hd
    have hcr : c = r + n * k := by omega
    have hm : c % (n : Int) = r % n := by rw [hcr, Int.add_mul_emod_self_left]
    rw [hm]
    split
    · rw [← Int.add_emod_right, Int.emod_eq_of_lt (by omega) (by omega)]
    · exact Int.emod_eq_of_lt (by omega) (by omega)
  rw [hem]
  clear h1 h2 hem
  by_cases hneg : r < 0
  · have q : decide (r < 0) = true := decide_eq_true hneg
    rw [if_pos hneg]
    go_enter Try.func31, Try.ntmps31
    go_wp2_with fail
    go_ret
    exact ⟨rfl, rfl⟩
  · have q : decide (r < 0) = false := decide_eq_false hneg
    rw [if_neg hneg]
    go_enter Try.func31, Try.ntmps31
    go_wp2_with fail
    go_ret
    exact ⟨rfl, rfl⟩
end Go.Proofs.Ytckclacdmpcpbaa
