/-
  Relays as objects: their cells; making one; sending; all that waits.
-/
import Derived.Test.YtckclacdmpcpbaaYa
import Derived.Test.YtckclacdmpcpbaaWm
import Derived.Deep.QuietTactic
import Derived.BigQuiet
import Derived.Deep.Cut
import Derived.Deep.RegionLaw
import Derived.Deep.DeepCutAuto
namespace Go.Proofs.Ytckclacdmpcpbaa
open Go.RowKit Wm Mm Rl
set_option linter.unusedVariables false
set_option linter.unusedSimpArgs false

abbrev rowP (p : PktP) : List Value := [.int .i64 p.frm, .int .i64 p.to, .int .i64 p.num, .bool p.ack, str p.body]
theorem rowP_len (p : PktP) : (rowP p).length = 5 := rfl
theorem rowP_one (p : PktP) : ∀ u ∈ rowP p, u.oneCell' = true := by intro u hu; simp at hu; rcases hu with rfl | rfl | rfl | rfl | rfl <;> rfl
theorem info_pkt : (Try.prog.info? 34).map (fun i => (i.zero, i.size, i.bytes)) = some (some (.agg #[.int .i64 0, .int .i64 0, .int .i64 0, .bool false, .string ByteArray.empty]), 5, 48) := by kernel_rfl
abbrev Pkts (F : Nat → Prop) (w : World) (v : Value) (l : List PktP) : Prop := Sl 5 (Plain rowP) F w v l
abbrev OwnP (w : World) (v : Value) (l : List PktP) : Prop := w.ownsRow 0 34 5 v l.length (l.flatMap rowP)
/-- the cells of the program's relay -/
def cellsX (id : Int) (nx : Nat → Int) (vs : Nat → Value) (aw : Nat → Int) : List Value := .int .i64 id :: (List.range 10).flatMap fun k => [.int .i64 (nx k), vs k, .int .i64 (aw k)]
theorem ten {k : Nat} (h : k < 10) : k = 0 ∨ k = 1 ∨ k = 2 ∨ k = 3 ∨ k = 4 ∨ k = 5 ∨ k = 6 ∨ k = 7 ∨ k = 8 ∨ k = 9 := by omega
theorem cellsX_len (id : Int) (nx : Nat → Int) (vs : Nat → Value) (aw : Nat → Int) : (cellsX id nx vs aw).length = 31 := rfl
theorem cellsX_id (id : Int) (nx : Nat → Int) (vs : Nat → Value) (aw : Nat → Int) : (cellsX id nx vs aw).toArray[0]? = some (.int .i64 id) := rfl
theorem cellsX_next (id : Int) (nx : Nat → Int) (vs : Nat → Value) (aw : Nat → Int) {k : Nat} (h : k < 10) : (cellsX id nx vs aw).toArray[1 + k * 3]? = some (.int .i64 (nx k)) := by
  rcases ten h with rfl | rfl | rfl | rfl | rfl | rfl | rfl | rfl | rfl | rfl <;> rfl
theorem cellsX_wait (id : Int) (nx : Nat → Int) (vs : Nat → Value) (aw : Nat → Int) {k : Nat} (h : k < 10) : (cellsX id nx vs aw).toArray[1 + k * 3 + 1]? = some (vs k) := by
  rcases ten h with rfl | rfl | rfl | rfl | rfl | rfl | rfl | rfl | rfl | rfl <;> rfl
theorem cellsX_awaits (id : Int) (nx : Nat → Int) (vs : Nat → Value) (aw : Nat → Int) {k : Nat} (h : k < 10) : (cellsX id nx vs aw).toArray[1 + k * 3 + 2]? = some (.int .i64 (aw k)) := by
  rcases ten h with rfl | rfl | rfl | rfl | rfl | rfl | rfl | rfl | rfl | rfl <;> rfl
theorem cellsX_setNext (id : Int) (nx : Nat → Int) (vs : Nat → Value) (aw : Nat → Int) {k : Nat} (h : k < 10) (n : Int) : (cellsX id nx vs aw).toArray.setIfInBounds (1 + k * 3) (.int .i64 n) = (cellsX id (upd nx k n) vs aw).toArray := by
  rcases ten h with rfl | rfl | rfl | rfl | rfl | rfl | rfl | rfl | rfl | rfl <;> rfl
theorem cellsX_setWait (id : Int) (nx : Nat → Int) (vs : Nat → Value) (aw : Nat → Int) {k : Nat} (h : k < 10) (v : Value) : (cellsX id nx vs aw).toArray.setIfInBounds (1 + k * 3 + 1) v = (cellsX id nx (upd vs k v) aw).toArray := by
  rcases ten h with rfl | rfl | rfl | rfl | rfl | rfl | rfl | rfl | rfl | rfl <;> rfl
theorem cellsX_setAwaits (id : Int) (nx : Nat → Int) (vs : Nat → Value) (aw : Nat → Int) {k : Nat} (h : k < 10) (n : Int) : (cellsX id nx vs aw).toArray.setIfInBounds (1 + k * 3 + 2) (.int .i64 n) = (cellsX id nx vs (upd aw k n)).toArray := by
  rcases ten h with rfl | rfl | rfl | rfl | rfl | rfl | rfl | rfl | rfl | rfl <;> rfl
abbrev blkX (id : Int) (nx : Nat → Int) (vs : Nat → Value) (aw : Nat → Int) : Obj := .cells (cellsX id nx vs aw).toArray 184 (0, 0)
theorem blkX_set {w : World} {B : Nat} {id : Int} {nx : Nat → Int} {vs : Nat → Value} {aw : Nat → Int} (h : w.heap[B]? = some (blkX id nx vs aw)) (i : Nat) (v : Value) :
    (w.setCell ⟨B, i, none⟩ v).heap[B]? = some (.cells ((cellsX id nx vs aw).toArray.setIfInBounds i v) 184 (0, 0)) := by
  rw [heap_setCell, if_pos rfl, h]; rfl
/-- the program's relay at block B; all that it has lies in blocks of F -/
structure RelX (F : Nat → Prop) (w : World) (B : Nat) (r : RelP) : Prop where
  ex : ∃ vs : Nat → Value, w.heap[B]? = some (blkX r.id (fun k => (r.sent k : Int) + 1) vs (fun k => (r.came k : Int) + 1)) ∧ Fam 34 5 rowP 10 F w vs r.wait
  foot : F B

set_option maxHeartbeats 4000000 in
set_option maxRecDepth 100000 in
theorem new_law (id : Int) (w : World) : Calls Try.prog 15 #[.int .i64 id] w fun e w' =>
    (if (decide (1 ≤ id) && decide (id ≤ 9)) = true then e = .returned (.tuple #[.pointer (some ⟨w.heap.size, 0, none⟩), .int .i64 0]) ∧ RelX (fun g => w.heap.size ≤ g) w' w.heap.size (newP id) else e = .returned (.tuple #[.pointer none, .int .i64 13])) ∧ Below w.heap.size w w' := by
  by_cases hid : 1 ≤ id ∧ id ≤ 9
  · have t1 : (decide (1 ≤ id) && decide (id ≤ 9)) = true := by simp [hid.1, hid.2]
    rw [t1]
    simp only [if_true]
    obtain ⟨B, hB⟩ := hide w.heap.size
    rw [hB.out]
    obtain ⟨h1, h2⟩ := hid
    have q1 : decide (id < 1) = false := decide_eq_false (by omega)
    have q2 : decide (9 < id) = false := decide_eq_false (by omega)
    obtain ⟨W, hW⟩ := hide (w.alloc (.cells #[.int .i64 id, .int .i64 0, .slice none 0 0, .int .i64 0, .int .i64 0, .slice none 0 0, .int .i64 0, .int .i64 0, .slice none 0 0, .int .i64 0, .int .i64 0, .slice none 0 0, .int .i64 0, .int .i64 0, .slice none 0 0, .int .i64 0, .int .i64 0, .slice none 0 0, .int .i64 0, .int .i64 0, .slice none 0 0, .int .i64 0, .int .i64 0, .slice none 0 0, .int .i64 0, .int .i64 0, .slice none 0 0, .int .i64 0, .int .i64 0, .slice none 0 0, .int .i64 0] 184))
    have hblk : Hid (W.heap[B]? = some (blkX id (fun i => if i < 0 then 1 else 0) (fun _ => .slice none 0 0) (fun i => if i < 0 then 1 else 0))) := by show _ = _; rw [← hW.out, ← hB.out]; exact hp_at _ _ rfl
    have hbel : Hid (Below B w W) := by show Below _ _ _; rw [← hW.out, ← hB.out]; exact (Below.refl _ _).alloc (Nat.le_refl _) _
    clear t1
    go_enter Try.func15, Try.ntmps15
    go_upto_region 4 with fail
    rw [hW.out, hB.out]
    go_wp2_with fail
    go_loopw [15] (fun s15 wr => ∃ k : Nat, s15 = .int .i64 k ∧ k ≤ 10 ∧ Hid (wr.heap[B]? = some (blkX id (fun i => if i < k then 1 else 0) (fun _ => .slice none 0 0) (fun i => if i < k then 1 else 0))) ∧ Hid (Below B w wr)) (fun s15 _ => 10 - (intOf s15).toNat)
    case atStart => exact ⟨0, rfl, Nat.zero_le _, hblk, hbel⟩
    case round =>
      obtain ⟨k, rfl, hk, hb, hw⟩ := hrel
      by_cases hlt : k < 10
      · have c1 := cell_n hb.out (1 + k * 3) (cellsX_next _ _ _ _ hlt)
        have c3 := cell_n hb.out (1 + k * 3 + 2) (cellsX_awaits _ _ _ _ hlt)
        have f1 := free_n hb.out (1 + k * 3)
        have f3 := free_n hb.out (1 + k * 3 + 2)
        have HW1 : Hid (((wr.setCell ⟨B, 1 + k * 3, none⟩ (.int .i64 1)).setCell ⟨B, 1 + k * 3 + 2, none⟩ (.int .i64 1)).heap[B]? = some (blkX id (fun i => if i < k + 1 then 1 else 0) (fun _ => .slice none 0 0) (fun i => if i < k + 1 then 1 else 0))) := by
          show _ = _
          have e : (fun i => if i < k + 1 then (1 : Int) else 0) = upd (fun i => if i < k then (1 : Int) else 0) k 1 := by
            funext i; unfold upd; by_cases h : i = k
            · subst h; simp
            · by_cases h2 : i < k
              · simp [h, h2, show i < k + 1 from by omega]
              · simp [h, h2, show ¬ i < k + 1 from by omega]
          rw [heap_setCell, if_pos rfl, heap_setCell, if_pos rfl, hb.out, e]
          simp only [Option.map_some, storeIn, Option.isSome_none]
          rw [if_neg (by simp), if_neg (by simp), cellsX_setNext _ _ _ _ hlt, cellsX_setAwaits _ _ _ _ hlt]
        have HB1 : Hid (Below B w ((wr.setCell ⟨B, 1 + k * 3, none⟩ (.int .i64 1)).setCell ⟨B, 1 + k * 3 + 2, none⟩ (.int .i64 1)).drew) := ((hw.out.setCell (p := ⟨B, 1 + k * 3, none⟩) (Nat.le_refl _) _).setCell (p := ⟨B, 1 + k * 3 + 2, none⟩) (Nat.le_refl _) _).drew
        go_upto_region 7 with fail
        go_region
        go_wp2_with fail
        go_roundw
        case rel => exact ⟨k + 1, by go_num, by omega, HW1, HB1⟩
        case measure => simp [intOf]; omega
      · obtain rfl : k = 10 := by omega
        go_wp2_with fail
        go_ret2
        refine ⟨⟨rfl, ⟨fun _ => .slice none 0 0, ?_, Fam.nil _ _ _ _ _ _⟩, Nat.le_refl _⟩, hw.out⟩
        rw [hb.out]
        rfl
  · have t1 : (decide (1 ≤ id) && decide (id ≤ 9)) = false := by
      cases h : (decide (1 ≤ id) && decide (id ≤ 9)) with
      | false => rfl
      | true => exact absurd (by simpa using h) hid
    rw [t1]
    by_cases h1 : id < 1
    · have q1 : decide (id < 1) = true := decide_eq_true h1
      go_enter Try.func15, Try.ntmps15
      go_wp2_with fail
      go_ret2
      exact ⟨by simp, Below.refl _ _⟩
    · have q1 : decide (id < 1) = false := decide_eq_false h1
      have q2 : decide (9 < id) = true := decide_eq_true (by omega)
      go_enter Try.func15, Try.ntmps15
      go_wp2_with fail
      go_ret2
      exact ⟨by simp, Below.refl _ _⟩

theorem fam_ne {F : Nat → Prop} {w : World} {vs : Nat → Value} {ls : Nat → List PktP} (h : Fam 34 5 rowP 10 F w vs ls) {B : Nat} {cs : Array Value} (hB : w.heap[B]? = some (.cells cs 184 (0, 0))) {k : Nat} (hk : k < 10) : (vs k).ownBlock ≠ some B := by
  intro e
  rcases (h.own k hk).2 with ⟨hv, _⟩ | ⟨g, cap, cur, hv, _, hg, _⟩
  · rw [hv] at e; simp [Value.ownBlock] at e
  · rw [hv] at e
    have e' : g = B := by simpa [Value.ownBlock] using e
    subst e'
    rw [hg] at hB
    injection hB with hB
    injection hB with _ h2 _
    revert h2
    decide
theorem rel_slice {F : Nat → Prop} {w : World} {vs : Nat → Value} {ls : Nat → List PktP} (h : Fam 34 5 rowP 10 F w vs ls) {k : Nat} (hk : k < 10) : ∃ a c, vs k = .slice a (ls k).length c := owns_slice (h.own k hk)
theorem mayTo_false {id dst : Int} (h : mayTo id dst = false) : dst < 1 ∨ 9 < dst ∨ dst = id := by
  unfold mayTo at h
  by_cases h1 : dst < 1
  · exact Or.inl h1
  · by_cases h2 : 9 < dst
    · exact Or.inr (Or.inl h2)
    · by_cases h3 : dst = id
      · exact Or.inr (Or.inr h3)
      · simp [show 1 ≤ dst from by omega, show dst ≤ 9 from by omega, h3] at h
theorem mayTo_true {id dst : Int} (h : mayTo id dst = true) : 1 ≤ dst ∧ dst ≤ 9 ∧ dst ≠ id := by
  unfold mayTo at h
  simp only [Bool.and_eq_true, decide_eq_true_eq, Bool.not_eq_true', beq_eq_false_iff_ne] at h
  exact ⟨h.1.1, h.1.2, h.2⟩
theorem RelX.weak {F G : Nat → Prop} {w : World} {B : Nat} {r : RelP} (h : RelX F w B r) (hs : ∀ g, g < w.heap.size → F g → G g) : RelX G w B r := by
  obtain ⟨⟨vs, h1, h2⟩, h3⟩ := h
  exact ⟨⟨vs, h1, h2.weak hs⟩, hs B (lt_of_block h1) h3⟩
theorem RelX.agree {F : Nat → Prop} {w w' : World} {B : Nat} {r : RelP} (h : RelX F w B r) (ha : Agree F w w') : RelX F w' B r := by
  obtain ⟨⟨vs, h1, h2⟩, h3⟩ := h
  exact ⟨⟨vs, (ha.2 B h3 (lt_of_block h1)).trans h1, h2.agree ha⟩, h3⟩
theorem send_fin {r : RelP} {F : Nat → Prop} {w w9 : World} {B t : Nat} {vs : Nat → Value} {nx aw : Nat → Int} {a a9 : Option Addr} {c k9 : Nat} {p : PktP} (hf : Fam 34 5 rowP 10 F w vs r.wait) (hB : w.heap[B]? = some (blkX r.id nx vs aw)) (hFB : F B) (ht : t < 10) (hv : vs t = .slice a (r.wait t).length c)
    (hg : (w.alloc (.cells #[.int .i64 p.frm, .int .i64 p.to, .int .i64 p.num, .bool p.ack, str p.body] 34)).drew.grownBy w9 (Value.slice a (r.wait t).length c).ownBlock)
    (ho : w9.ownsRow 0 34 5 (.slice a9 ((r.wait t).length + 1) k9) ((r.wait t).length + 1) ((r.wait t).flatMap rowP ++ [.int .i64 p.frm, .int .i64 p.to, .int .i64 p.num, .bool p.ack, str p.body]))
    (hb : ∀ g, (Value.slice a9 ((r.wait t).length + 1) k9).ownBlock = some g → (Value.slice a (r.wait t).length c).ownBlock = some g ∨ (w.alloc (.cells #[.int .i64 p.frm, .int .i64 p.to, .int .i64 p.num, .bool p.ack, str p.body] 34)).drew.heap.size ≤ g)
    (hB9 : w9.heap[B]? = some (blkX r.id nx vs aw)) :
    Hid ((w9.setCell ⟨B, 1 + t * 3 + 1, none⟩ (.slice a9 ((r.wait t).length + 1) k9)).heap[B]? = some (blkX r.id nx (upd vs t (.slice a9 ((r.wait t).length + 1) k9)) aw)) ∧ Hid (Fam 34 5 rowP 10 (fun g => F g ∨ w.heap.size ≤ g) (w9.setCell ⟨B, 1 + t * 3 + 1, none⟩ (.slice a9 ((r.wait t).length + 1) k9)) (upd vs t (.slice a9 ((r.wait t).length + 1) k9)) (upd r.wait t (r.wait t ++ [p]))) ∧ Hid (Chg F w (w9.setCell ⟨B, 1 + t * 3 + 1, none⟩ (.slice a9 ((r.wait t).length + 1) k9))) := by
  have hBn : (w9.setCell ⟨B, 1 + t * 3 + 1, none⟩ (.slice a9 ((r.wait t).length + 1) k9)).heap[B]? = some (blkX r.id nx (upd vs t (.slice a9 ((r.wait t).length + 1) k9)) aw) := by
    rw [blkX_set hB9, cellsX_setWait _ _ _ _ ht]
  have hsz : (w.alloc (.cells #[.int .i64 p.frm, .int .i64 p.to, .int .i64 p.num, .bool p.ack, str p.body] 34)).drew.heap.size = w.heap.size + 1 := by simp
  have hfa : Fam 34 5 rowP 10 F (w.alloc (.cells #[.int .i64 p.frm, .int .i64 p.to, .int .i64 p.num, .bool p.ack, str p.body] 34)).drew vs r.wait := hf.agree ((Agree.alloc F w _).trans (Agree.drew F _))
  have hl : (r.wait t ++ [p]).length = (r.wait t).length + 1 := by rw [List.length_append]; rfl
  have hp := (hfa.put ht (v := .slice a9 ((r.wait t).length + 1) k9) (l := r.wait t ++ [p]) (w' := w9) (by rw [hv]; exact hg) (by rw [hl, List.flatMap_append]; exact ho) (fun g hg' => by rw [hv]; exact hb g hg')).weak (G := fun g => F g ∨ w.heap.size ≤ g) (fun g _ h => h.imp id (fun h => by omega))
  refine ⟨hBn, hp.setOther (fun k hk => fam_ne hp hB9 hk) _, ?_⟩
  show Chg _ _ _
  refine (((Chg.alloc F w _).trans (Chg.drew F _)).trans (Chg.grown hg (fun b hb' => ?_))).trans (Chg.setCell _ hFB _)
  exact hf.foot t ht b (by rw [hv]; exact hb')
set_option maxHeartbeats 4000000 in
set_option maxRecDepth 100000 in
theorem send_law (r : RelP) (dst : Int) (body : List UInt8) (F : Nat → Prop) (w : World) (B : Nat) (h : RelX F w B r) (hw : ∀ k, k < 10 → (r.wait k).length ≤ 16) (hs : ∀ k, k < 10 → r.sent k ≤ 1152921504606846976) :
    Calls Try.prog 16 #[.pointer (some ⟨B, 0, none⟩), .int .i64 dst, str body] w fun e w' => e = .returned (.int .i64 (sendP r dst body).2) ∧ RelX (fun g => F g ∨ w.heap.size ≤ g) w' B (sendP r dst body).1 ∧ Chg F w w' := by
  have h0 := Lib.hid h
  obtain ⟨⟨vs, hB, hf⟩, hFB⟩ := h
  have c0 := cell_n hB 0 (cellsX_id _ _ _ _)
  cases hm : mayTo r.id dst
  · have e1 : sendP r dst body = (r, 13) := by unfold sendP; rw [hm]; rfl
    rw [e1]
    have hpost : Hid (RelX (fun g => F g ∨ w.heap.size ≤ g) w B r) := h0.out.weak (fun g _ hg => Or.inl hg)
    rcases mayTo_false hm with h1 | h1
    · have q1 : decide (dst < 1) = true := decide_eq_true h1
      clear hB hf hm e1 h1 hw hs
      go_enter Try.func16, Try.ntmps16
      go_wp2_with fail
      go_ret
      exact ⟨rfl, hpost.out, Chg.refl _ _⟩
    · by_cases h3 : dst < 1
      · have q1 : decide (dst < 1) = true := decide_eq_true h3
        clear hB hf hm e1 h1 h3 hw hs
        go_enter Try.func16, Try.ntmps16
        go_wp2_with fail
        go_ret
        exact ⟨rfl, hpost.out, Chg.refl _ _⟩
      have q1 : decide (dst < 1) = false := decide_eq_false h3
      rcases h1 with h1 | h1
      · have q2 : decide (9 < dst) = true := decide_eq_true h1
        clear hB hf hm e1 h1 h3 hw hs
        go_enter Try.func16, Try.ntmps16
        go_wp2_with fail
        go_ret
        exact ⟨rfl, hpost.out, Chg.refl _ _⟩
      · by_cases h4 : 9 < dst
        · have q2 : decide (9 < dst) = true := decide_eq_true h4
          clear hB hf hm e1 h1 h3 h4 hw hs
          go_enter Try.func16, Try.ntmps16
          go_wp2_with fail
          go_ret
          exact ⟨rfl, hpost.out, Chg.refl _ _⟩
        · have q2 : decide (9 < dst) = false := decide_eq_false h4
          have q3 : (dst == r.id) = true := beq_iff_eq.2 h1
          clear hB hf hm e1 h1 h3 h4 hw hs
          go_enter Try.func16, Try.ntmps16
          go_wp2_with fail
          go_ret
          exact ⟨rfl, hpost.out, Chg.refl _ _⟩
  · obtain ⟨h1, h2, h3⟩ := mayTo_true hm
    obtain ⟨t, rfl⟩ : ∃ t : Nat, dst = (t : Int) := ⟨dst.toNat, by omega⟩
    have ht : t < 10 := by omega
    have htn : ((t : Int)).toNat = t := by omega
    have q1 : decide ((t : Int) < 1) = false := decide_eq_false (by omega)
    have q2 : decide ((9 : Int) < (t : Int)) = false := decide_eq_false (by omega)
    have q3 : ((t : Int) == r.id) = false := beq_eq_false_iff_ne.2 h3
    have hwt := hw t ht
    have hst := hs t ht
    obtain ⟨a, c, hv⟩ := rel_slice hf ht
    have hne := fam_ne hf hB ht
    have c1 := cell_n hB (1 + t * 3) (cellsX_next _ _ _ _ ht)
    have c2 := cell_n hB (1 + t * 3 + 1) (cellsX_wait _ _ _ _ ht)
    have f1 := free_n hB (1 + t * 3)
    have f2 := free_n hB (1 + t * 3 + 1)
    rw [hv] at c2
    by_cases hfull : (r.wait t).length = 16
    · have e1 : sendP r (t : Int) body = (r, 4) := by unfold sendP; rw [if_pos hm, htn, if_pos hfull]
      rw [e1]
      have hpost : Hid (RelX (fun g => F g ∨ w.heap.size ≤ g) w B r) := h0.out.weak (fun g _ hg => Or.inl hg)
      rw [hfull] at c2
      clear hB hf hm e1 h1 h2 h3 hw hs hv hne hwt hfull htn
      go_enter Try.func16, Try.ntmps16
      go_wp2_with fail
      go_ret
      exact ⟨rfl, hpost.out, Chg.refl _ _⟩
    · have e1 : sendP r (t : Int) body = (sentP r t body, 0) := by unfold sendP; rw [if_pos hm, htn, if_neg hfull]
      rw [e1]
      have ho := hf.own t ht
      rw [hv] at ho
      have HoA : Hid ((w.drew.alloc (.cells #[.int .i64 r.id, .int .i64 (t : Int), .int .i64 ((r.sent t : Int) + 1), .bool false, str body] 34)).ownsRow 0 34 5 (.slice a (r.wait t).length c) (r.wait t).length ((r.wait t).flatMap rowP)) := ho.drew.alloc _
      have HsA : Hid (Src Try.prog 5 28 (.slice (some ⟨w.drew.heap.size, 0, none⟩) 1 1) 1 [.int .i64 r.id, .int .i64 (t : Int), .int .i64 ((r.sent t : Int) + 1), .bool false, str body] (w.drew.alloc (.cells #[.int .i64 r.id, .int .i64 (t : Int), .int .i64 ((r.sent t : Int) + 1), .bool false, str body] 34))) :=
        src_new (w := w.drew) Try.underlying28 _ 1 rfl (rowP_one ⟨r.id, t, (r.sent t : Int) + 1, false, body⟩)
      have Hf := Lib.hid hf
      have Hblk := Lib.hid hB
      have hne' : some B ≠ (Value.slice a (r.wait t).length c).ownBlock := by rw [← hv]; exact fun e => hne e.symm
      have HBk : Hid (∀ w9 : World, (w.drew.alloc (.cells #[.int .i64 r.id, .int .i64 (t : Int), .int .i64 ((r.sent t : Int) + 1), .bool false, str body] 34)).grownBy w9 (Value.slice a (r.wait t).length c).ownBlock → w9.heap[B]? = some (blkX r.id (fun k => (r.sent k : Int) + 1) vs (fun k => (r.came k : Int) + 1))) := fun w9 hg => by
        have hlt := lt_of_block hB
        rw [hg.block B (by simp; omega) hne', hp_past _ _ (by show B ≠ w.heap.size; omega)]
        exact hB
      have Hv := Lib.hid hv
      have Hne := Lib.hid hne
      have Hwt := Lib.hid hwt
      have q4 : (((r.wait t).length : Int) == 16) = false := beq_eq_false_iff_ne.2 (by omega)
      have c2' : (w.alloc (.cells #[.int .i64 r.id, .int .i64 (t : Int), .int .i64 ((r.sent t : Int) + 1), .bool false, str body] 34)).cell? ⟨B, 1 + t * 3 + 1, none⟩ = some (.slice a (r.wait t).length c) :=
        (World.cell?_of_block (hp_past w _ (by show B ≠ w.heap.size; have := lt_of_block hB; omega))).trans c2
      clear hB hf hm e1 h1 h2 h3 hw hs hv hne hwt hfull htn ho
      go_enter Try.func16, Try.ntmps16
      go_upto_region 6 with fail
      go_cut [50] (fun s wx => ∃ a9 k9, s = .slice a9 ((r.wait t).length + 1) k9 ∧ Hid (wx.heap[B]? = some (blkX r.id (fun k => (r.sent k : Int) + 1) (upd vs t (.slice a9 ((r.wait t).length + 1) k9)) (fun k => (r.came k : Int) + 1))) ∧ Hid (Fam 34 5 rowP 10 (fun g => F g ∨ w.heap.size ≤ g) wx (upd vs t (.slice a9 ((r.wait t).length + 1) k9)) (upd r.wait t (r.wait t ++ [⟨r.id, t, (r.sent t : Int) + 1, false, body⟩]))) ∧ Hid (Chg F w wx))
      case first =>
        go_region_law (refine step_append_at (by rfl) _ _ 28 28 (by rfl) 0 34 _ 5 48 Try.underlying28 info_pkt rfl _ _ _ (by rfl) HoA.out _ 1 _ (by rfl) HsA.out (by have := Hwt.out; unfold maxLen; omega) (by have := Hwt.out; omega) (Nat.zero_le _) ?_; intro v9 w9 ho9 hg9 hb9; obtain ⟨a9, k9, rfl⟩ := owns_slice ho9; have hB9 : w9.heap[B]? = some (blkX r.id (fun k => (r.sent k : Int) + 1) vs (fun k => (r.came k : Int) + 1)) := HBk.out _ hg9; have d2 := cell_n hB9 (1 + t * 3 + 1) (cellsX_wait _ _ _ _ ht); have g2 := free_n hB9 (1 + t * 3 + 1); have Ho9 := Lib.hid ho9; have Hg9 := Lib.hid hg9; have Hb9 := Lib.hid hb9; have HB9 := Lib.hid hB9; clear ho9 hg9 hb9 hB9)
        all_goals
          go_wp2_with fail
          go_meet
          refine ⟨a9, k9, rfl, ?_⟩
          exact send_fin Hf.out Hblk.out hFB ht Hv.out Hg9.out Ho9.out Hb9.out HB9.out
      case rest =>
        obtain ⟨a9, k9, rfl, hB9, hf9, hc9⟩ := hcut
        have e1 := cell_n hB9.out (1 + t * 3) (cellsX_next _ _ _ _ ht)
        have g1 := free_n hB9.out (1 + t * 3)
        have HE : Hid ((wc.setCell ⟨B, 1 + t * 3, none⟩ (.int .i64 ((r.sent t : Int) + 1 + 1))).heap[B]? = some (blkX r.id (upd (fun k => (r.sent k : Int) + 1) t ((r.sent t : Int) + 1 + 1)) (upd vs t (.slice a9 ((r.wait t).length + 1) k9)) (fun k => (r.came k : Int) + 1))) := by
          show _ = _
          rw [blkX_set hB9.out, cellsX_setNext _ _ _ _ ht]
        clear c0 c1 c2 f1 f2 c2'
        go_wp2_with fail
        go_ret
        refine ⟨rfl, ⟨⟨_, ?_, hf9.out.setOther (fun k hk => fam_ne hf9.out hB9.out hk) _⟩, Or.inl hFB⟩, hc9.out.trans (Chg.setCell _ hFB _)⟩
        rw [HE.out]
        have e : (fun k => ((sentP r t body).sent k : Int) + 1) = upd (fun k => (r.sent k : Int) + 1) t ((r.sent t : Int) + 1 + 1) := by
          funext k
          show ((upd r.sent t (r.sent t + 1) k : Nat) : Int) + 1 = _
          unfold upd
          by_cases h : k = t
          · subst h; simp
          · simp [h]
        rw [e]
        rfl

theorem range_flat {α : Type} (f : Nat → List α) (k : Nat) : (List.range (k + 1)).flatMap f = (List.range k).flatMap f ++ f k := by rw [List.range_succ, List.flatMap_append]; simp
set_option maxHeartbeats 4000000 in
set_option maxRecDepth 100000 in
theorem packets_law (r : RelP) (F : Nat → Prop) (w : World) (B : Nat) (h : RelX F w B r) (hw : ∀ k, k < 10 → (r.wait k).length ≤ 16) :
    Calls Try.prog 17 #[.pointer (some ⟨B, 0, none⟩)] w fun e w' => ∃ v', e = .returned v' ∧ w'.ownsRow w.heap.size 34 5 v' (packetsP r).length ((packetsP r).flatMap rowP) ∧ Below w.heap.size w w' := by
  have HX : Hid (∀ w', Below w.heap.size w w' → RelX F w' B r) := fun w' hb => h.agree (Agree.below hb)
  have Hw := Lib.hid hw
  clear h hw
  go_enter Try.func17, Try.ntmps17
  go_wp2_with fail
  go_loopw [2, 4] (fun s2 s4 wr => ∃ (k : Nat) (n : Nat) (a : Option Addr) (c : Nat) (acc : List PktP), s4 = .int .i64 k ∧ k ≤ 10 ∧ s2 = .slice a n c ∧ n ≤ 16 * k ∧ Hid (acc = (List.range k).flatMap r.wait) ∧ Hid (wr.ownsRow w.heap.size 34 5 (.slice a n c) n (acc.flatMap rowP)) ∧ Hid (acc.length = n) ∧ Hid (Below w.heap.size w wr)) (fun _ s4 _ => 10 - (intOf s4).toNat)
  case atStart => exact ⟨0, 0, none, 0, [], rfl, Nat.zero_le _, rfl, Nat.zero_le _, rfl, World.ownsRow_nil _ _ _ _, rfl, Below.refl _ _⟩
  case round =>
    obtain ⟨k, n, a, c, acc, rfl, hk, rfl, hn, hacc, ho, hl, hb⟩ := hrel
    by_cases hlt : k < 10
    · obtain ⟨⟨vs, hB, hf⟩, hFB⟩ := HX.out wr hb.out
      obtain ⟨a2, c2, hv⟩ := rel_slice hf hlt
      have d2 := cell_n hB (1 + k * 3 + 1) (cellsX_wait _ _ _ _ hlt)
      rw [hv] at d2
      have hs := src_own (P := Try.prog) (tx := 28) Try.underlying28 (hf.own k hlt) (fun u hu => by
        obtain ⟨p, _, hp⟩ := List.mem_flatMap.1 hu
        exact rowP_one p u hp)
      rw [hv] at hs
      have Hs := Lib.hid hs
      have hm := Hw.out k hlt
      obtain ⟨m, hmm⟩ := hide (r.wait k).length
      have Hmm := Lib.hid hmm
      rw [hmm.out] at Hs d2 hm
      have HS : Hid (w.heap.size ≤ wr.heap.size) := hb.out.size
      clear hB hf hFB hs hv hmm
      go_wp2_with (at_builtin; refine wpList_append_src rfl _ _ 28 28 rfl w.heap.size 34 _ 5 48 Try.underlying28 info_pkt rfl _ _ _ rfl ho.out _ _ _ rfl Hs.out (by unfold maxLen; omega) (by omega) HS.out ?_)
      intro v' w2 ho2 hg2
      obtain ⟨a3, c3, rfl⟩ := owns_slice ho2
      have Ho2 : Hid (w2.ownsRow w.heap.size 34 5 (.slice a3 (n + m) c3) (n + m) ((acc ++ r.wait k).flatMap rowP)) := by
        show World.ownsRow _ _ _ _ _ _ _
        rw [List.flatMap_append]; exact ho2
      have Hb2 : Hid (Below w.heap.size w w2) := hb.out.trans (below_own ho.out hg2 (Nat.le_refl _) HS.out)
      have Ha2 : Hid (acc ++ r.wait k = (List.range (k + 1)).flatMap r.wait) := by show _ = _; rw [range_flat, hacc.out]
      have Hl2 : Hid ((acc ++ r.wait k).length = n + m) := by show _ = _; rw [List.length_append, hl.out, Hmm.out.out]
      have hnm : n + m ≤ 16 * (k + 1) := by omega
      clear ho2 hg2
      go_wp2_with fail
      go_roundw
      case rel => exact ⟨k + 1, n + m, a3, c3, acc ++ r.wait k, by go_num, by omega, rfl, hnm, Ha2, Ho2, Hl2, Hb2⟩
      case measure => simp [intOf]; omega
    · obtain rfl : k = 10 := by omega
      have he : acc = packetsP r := hacc.out
      subst he
      go_wp2_with fail
      go_ret
      refine ⟨_, rfl, ?_, hb.out⟩
      rw [hl.out]
      exact ho.out
end Go.Proofs.Ytckclacdmpcpbaa
