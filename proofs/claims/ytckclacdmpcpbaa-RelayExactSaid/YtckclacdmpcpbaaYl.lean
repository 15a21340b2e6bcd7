/-
  The reference's relays as objects: their cells; making one; all that waits; sending.
-/
import Derived.Test.YtckclacdmpcpbaaYd
namespace Go.Proofs.Ytckclacdmpcpbaa
open Go.RowKit Wm Mm Rl
set_option linter.unusedVariables false
set_option linter.unusedSimpArgs false

/-- the cells of the reference's relay -/
def cellsR (id : Int) (sn : Nat → Int) (vs : Nat → Value) (ca : Nat → Int) : List Value := .int .i64 id :: (((List.range 10).map fun k => .int .i64 (sn k)) ++ ((List.range 10).map vs ++ (List.range 10).map fun k => .int .i64 (ca k)))
section
variable {id : Int} {sn ca : Nat → Int} {vs : Nat → Value}
theorem cellsR_id : (cellsR id sn vs ca).toArray[0]? = some (.int .i64 id) := rfl
theorem cellsR_sent {k : Nat} (h : k < 10) : (cellsR id sn vs ca).toArray[1 + k]? = some (.int .i64 (sn k)) := by
  rcases ten h with rfl | rfl | rfl | rfl | rfl | rfl | rfl | rfl | rfl | rfl <;> rfl
theorem cellsR_wait {k : Nat} (h : k < 10) : (cellsR id sn vs ca).toArray[11 + k]? = some (vs k) := by
  rcases ten h with rfl | rfl | rfl | rfl | rfl | rfl | rfl | rfl | rfl | rfl <;> rfl
theorem cellsR_came {k : Nat} (h : k < 10) : (cellsR id sn vs ca).toArray[21 + k]? = some (.int .i64 (ca k)) := by
  rcases ten h with rfl | rfl | rfl | rfl | rfl | rfl | rfl | rfl | rfl | rfl <;> rfl
theorem cellsR_setSent {k : Nat} (h : k < 10) (n : Int) : (cellsR id sn vs ca).toArray.setIfInBounds (1 + k) (.int .i64 n) = (cellsR id (upd sn k n) vs ca).toArray := by
  rcases ten h with rfl | rfl | rfl | rfl | rfl | rfl | rfl | rfl | rfl | rfl <;> rfl
theorem cellsR_setWait {k : Nat} (h : k < 10) (v : Value) : (cellsR id sn vs ca).toArray.setIfInBounds (11 + k) v = (cellsR id sn (upd vs k v) ca).toArray := by
  rcases ten h with rfl | rfl | rfl | rfl | rfl | rfl | rfl | rfl | rfl | rfl <;> rfl
theorem cellsR_setCame {k : Nat} (h : k < 10) (n : Int) : (cellsR id sn vs ca).toArray.setIfInBounds (21 + k) (.int .i64 n) = (cellsR id sn vs (upd ca k n)).toArray := by
  rcases ten h with rfl | rfl | rfl | rfl | rfl | rfl | rfl | rfl | rfl | rfl <;> rfl
end
abbrev blkR (id : Int) (sn : Nat → Int) (vs : Nat → Value) (ca : Nat → Int) : Obj := .cells (cellsR id sn vs ca).toArray 189 (0, 0)
theorem blkR_set {w : World} {B : Nat} {id : Int} {sn : Nat → Int} {vs : Nat → Value} {ca : Nat → Int} (h : w.heap[B]? = some (blkR id sn vs ca)) (i : Nat) (v : Value) :
    (w.setCell ⟨B, i, none⟩ v).heap[B]? = some (.cells ((cellsR id sn vs ca).toArray.setIfInBounds i v) 189 (0, 0)) := by
  rw [heap_setCell, if_pos rfl, h]; rfl
/-- the reference's relay at block B; all that it has lies in blocks of F -/
structure RefX (F : Nat → Prop) (w : World) (B : Nat) (r : RelP) : Prop where
  ex : ∃ vs : Nat → Value, w.heap[B]? = some (blkR r.id (fun k => (r.sent k : Int)) vs (fun k => (r.came k : Int))) ∧ Fam 34 5 rowP 10 F w vs r.wait
  foot : F B
theorem RefX.weak {F G : Nat → Prop} {w : World} {B : Nat} {r : RelP} (h : RefX F w B r) (hs : ∀ g, g < w.heap.size → F g → G g) : RefX G w B r := by
  obtain ⟨⟨vs, h1, h2⟩, h3⟩ := h
  exact ⟨⟨vs, h1, h2.weak hs⟩, hs B (lt_of_block h1) h3⟩
theorem RefX.agree {F : Nat → Prop} {w w' : World} {B : Nat} {r : RelP} (h : RefX F w B r) (ha : Agree F w w') : RefX F w' B r := by
  obtain ⟨⟨vs, h1, h2⟩, h3⟩ := h
  exact ⟨⟨vs, (ha.2 B h3 (lt_of_block h1)).trans h1, h2.agree ha⟩, h3⟩
theorem famR_ne {F : Nat → Prop} {w : World} {vs : Nat → Value} {ls : Nat → List PktP} (h : Fam 34 5 rowP 10 F w vs ls) {B : Nat} {cs : Array Value} (hB : w.heap[B]? = some (.cells cs 189 (0, 0))) {k : Nat} (hk : k < 10) : (vs k).ownBlock ≠ some B := by
  intro e
  rcases (h.own k hk).2 with ⟨hv, _⟩ | ⟨g, cap, cur, hv, _, hg, _⟩
  · rw [hv] at e; simp [Value.ownBlock] at e
  · rw [hv] at e
    have e' : g = B := by simpa [Value.ownBlock] using e
    subst e'
    rw [hg] at hB
    injection hB with hB
    injection hB with _ h2 _
    revert h2
    decide
set_option maxHeartbeats 4000000 in
set_option maxRecDepth 100000 in
theorem newR_law (id : Int) (w : World) : Calls Try.prog 18 #[.int .i64 id] w fun e w' =>
    (if (decide (1 ≤ id) && decide (id ≤ 9)) = true then e = .returned (.tuple #[.pointer (some ⟨w.heap.size, 0, none⟩), .int .i64 0]) ∧ RefX (fun g => w.heap.size ≤ g) w' w.heap.size (newP id) else e = .returned (.tuple #[.pointer none, .int .i64 13])) ∧ Below w.heap.size w w' := by
  by_cases hid : 1 ≤ id ∧ id ≤ 9
  · have t1 : (decide (1 ≤ id) && decide (id ≤ 9)) = true := by simp [hid.1, hid.2]
    rw [t1]
    simp only [if_true]
    obtain ⟨B, hB⟩ := hide w.heap.size
    rw [hB.out]
    obtain ⟨h1, h2⟩ := hid
    have q1 : decide (id < 1) = false := decide_eq_false (by omega)
    have q2 : decide (9 < id) = false := decide_eq_false (by omega)
    obtain ⟨W, hW⟩ := hide (w.alloc (.cells (cellsR id (fun _ => 0) (fun _ => .slice none 0 0) (fun _ => 0)).toArray 189))
    have hblk : Hid (W.heap[B]? = some (blkR id (fun _ => 0) (fun _ => .slice none 0 0) (fun _ => 0))) := by show _ = _; rw [← hW.out, ← hB.out]; exact hp_at _ _ rfl
    have hbel : Hid (Below B w W) := by show Below _ _ _; rw [← hW.out, ← hB.out]; exact (Below.refl _ _).alloc (Nat.le_refl _) _
    have hz : (w.alloc (.cells #[.int .i64 id, .int .i64 0, .int .i64 0, .int .i64 0, .int .i64 0, .int .i64 0, .int .i64 0, .int .i64 0, .int .i64 0, .int .i64 0, .int .i64 0, .slice none 0 0, .slice none 0 0, .slice none 0 0, .slice none 0 0, .slice none 0 0, .slice none 0 0, .slice none 0 0, .slice none 0 0, .slice none 0 0, .slice none 0 0, .int .i64 0, .int .i64 0, .int .i64 0, .int .i64 0, .int .i64 0, .int .i64 0, .int .i64 0, .int .i64 0, .int .i64 0, .int .i64 0] 189)) = W := hW.out
    have HF : Hid (RefX (fun g => B ≤ g) W B (newP id)) := ⟨⟨_, hblk.out, Fam.nil _ _ _ _ _ _⟩, Nat.le_refl _⟩
    clear t1
    have Hz := Lib.hid hz
    clear hz
    go_enter Try.func18, Try.ntmps18
    go_wp2_with fail
    go_ret2
    rw [Hz.out, hB.out]
    exact ⟨⟨rfl, HF.out⟩, hbel.out⟩
  · have t1 : (decide (1 ≤ id) && decide (id ≤ 9)) = false := by
      cases h : (decide (1 ≤ id) && decide (id ≤ 9)) with
      | false => rfl
      | true => exact absurd (by simpa using h) hid
    rw [t1]
    by_cases h1 : id < 1
    · have q1 : decide (id < 1) = true := decide_eq_true h1
      go_enter Try.func18, Try.ntmps18
      go_wp2_with fail
      go_ret2
      exact ⟨by simp, Below.refl _ _⟩
    · have q1 : decide (id < 1) = false := decide_eq_false h1
      have q2 : decide (9 < id) = true := decide_eq_true (by omega)
      go_enter Try.func18, Try.ntmps18
      go_wp2_with fail
      go_ret2
      exact ⟨by simp, Below.refl _ _⟩
set_option maxHeartbeats 4000000 in
set_option maxRecDepth 100000 in
theorem packetsR_law (r : RelP) (F : Nat → Prop) (w : World) (B : Nat) (h : RefX F w B r) (hw : ∀ k, k < 10 → (r.wait k).length ≤ 16) :
    Calls Try.prog 24 #[.pointer (some ⟨B, 0, none⟩)] w fun e w' => ∃ v', e = .returned v' ∧ w'.ownsRow w.heap.size 34 5 v' (packetsP r).length ((packetsP r).flatMap rowP) ∧ Below w.heap.size w w' := by
  have HX : Hid (∀ w', Below w.heap.size w w' → RefX F w' B r) := fun w' hb => h.agree (Agree.below hb)
  have Hw := Lib.hid hw
  clear h hw
  go_enter Try.func24, Try.ntmps24
  go_wp2_with fail
  go_loopw [3, 4] (fun s2 s4 wr => ∃ (k : Nat) (n : Nat) (a : Option Addr) (c : Nat) (acc : List PktP), s4 = .int .i64 k ∧ k ≤ 10 ∧ s2 = .slice a n c ∧ n ≤ 16 * k ∧ Hid (acc = (List.range k).flatMap r.wait) ∧ Hid (wr.ownsRow w.heap.size 34 5 (.slice a n c) n (acc.flatMap rowP)) ∧ Hid (acc.length = n) ∧ Hid (Below w.heap.size w wr)) (fun _ s4 _ => 10 - (intOf s4).toNat)
  case atStart => exact ⟨0, 0, none, 0, [], rfl, Nat.zero_le _, rfl, Nat.zero_le _, rfl, World.ownsRow_nil _ _ _ _, rfl, Below.refl _ _⟩
  case round =>
    obtain ⟨k, n, a, c, acc, rfl, hk, rfl, hn, hacc, ho, hl, hb⟩ := hrel
    by_cases hlt : k < 10
    · obtain ⟨⟨vs, hB, hf⟩, hFB⟩ := HX.out wr hb.out
      obtain ⟨a2, c2, hv⟩ := rel_slice hf hlt
      have d2 := cell_n hB (11 + k) (cellsR_wait hlt)
      rw [hv] at d2
      have hs := src_own (P := Try.prog) (tx := 28) Try.underlying28 (hf.own k hlt) (fun u hu => by
        obtain ⟨p, _, hp⟩ := List.mem_flatMap.1 hu
        exact rowP_one p u hp)
      rw [hv] at hs
      have Hs := Lib.hid hs
      have hm := Hw.out k hlt
      obtain ⟨m, hmm⟩ := hide (r.wait k).length
      have Hmm := Lib.hid hmm
      rw [hmm.out] at Hs d2 hm
      have HS : Hid (w.heap.size ≤ wr.heap.size) := hb.out.size
      have hki : (k : Int) < 10 := by omega
      clear hB hf hFB hs hv hmm
      go_wp2_with (at_builtin; refine wpList_append_src rfl _ _ 28 28 rfl w.heap.size 34 _ 5 48 Try.underlying28 info_pkt rfl _ _ _ rfl ho.out _ _ _ rfl Hs.out (by unfold maxLen; omega) (by omega) HS.out ?_)
      intro v' w2 ho2 hg2
      obtain ⟨a3, c3, rfl⟩ := owns_slice ho2
      have Ho2 : Hid (w2.ownsRow w.heap.size 34 5 (.slice a3 (n + m) c3) (n + m) ((acc ++ r.wait k).flatMap rowP)) := by
        show World.ownsRow _ _ _ _ _ _ _
        rw [List.flatMap_append]; exact ho2
      have Hb2 : Hid (Below w.heap.size w w2) := hb.out.trans (below_own ho.out hg2 (Nat.le_refl _) HS.out)
      have Ha2 : Hid (acc ++ r.wait k = (List.range (k + 1)).flatMap r.wait) := by show _ = _; rw [range_flat, hacc.out]
      have Hl2 : Hid ((acc ++ r.wait k).length = n + m) := by show _ = _; rw [List.length_append, hl.out, Hmm.out.out]
      have hnm : n + m ≤ 16 * (k + 1) := by omega
      clear ho2 hg2
      go_wp2_with fail
      go_roundw
      case rel => exact ⟨k + 1, n + m, a3, c3, acc ++ r.wait k, by go_num, by omega, rfl, hnm, Ha2, Ho2, Hl2, Hb2⟩
      case measure => simp [intOf]; omega
    · obtain rfl : k = 10 := by omega
      have he : acc = packetsP r := hacc.out
      subst he
      go_wp2_with fail
      go_ret
      refine ⟨_, rfl, ?_, hb.out⟩
      rw [hl.out]
      exact ho.out
theorem sendR_fin {r : RelP} {F : Nat → Prop} {w U w2 w9 : World} {B t m : Nat} {vs : Nat → Value} {a3 a9 : Option Addr} {k3 k9 : Nat} (body : List UInt8) (hf : Fam 34 5 rowP 10 F U vs r.wait)
    (hB : U.heap[B]? = some (blkR r.id (upd (fun k => (r.sent k : Int)) t ((r.sent t : Int) + 1)) vs (fun k => (r.came k : Int)))) (hc : Chg F w U) (hs : U.heap.size = w.heap.size) (hb : Below U.heap.size U w2) (hFB : F B) (ht : t < 10) (hm : (r.wait t).length = m)
    (hoA : (w2.drew.alloc (.cells #[.int .i64 r.id, .int .i64 (t : Int), .int .i64 ((r.sent t : Int) + 1), .bool false, str body] 34)).ownsRow U.heap.size 34 5 (.slice a3 m k3) m ((r.wait t).flatMap rowP))
    (ho : w9.ownsRow U.heap.size 34 5 (.slice a9 (m + 1) k9) (m + 1) ((r.wait t).flatMap rowP ++ [.int .i64 r.id, .int .i64 (t : Int), .int .i64 ((r.sent t : Int) + 1), .bool false, str body]))
    (hg : (w2.drew.alloc (.cells #[.int .i64 r.id, .int .i64 (t : Int), .int .i64 ((r.sent t : Int) + 1), .bool false, str body] 34)).grownBy w9 (Value.slice a3 m k3).ownBlock)
    (hB9 : w9.heap[B]? = some (blkR r.id (upd (fun k => (r.sent k : Int)) t ((r.sent t : Int) + 1)) vs (fun k => (r.came k : Int)))) :
    RefX (fun g => F g ∨ w.heap.size ≤ g) (w9.setCell ⟨B, 11 + t, none⟩ (.slice a9 (m + 1) k9)) B (sentP r t body) ∧ Chg F w (w9.setCell ⟨B, 11 + t, none⟩ (.slice a9 (m + 1) k9)) := by
  have hA : Below U.heap.size U (w2.drew.alloc (.cells #[.int .i64 r.id, .int .i64 (t : Int), .int .i64 ((r.sent t : Int) + 1), .bool false, str body] 34)) := hb.drew.alloc hb.size _
  have hG : Below U.heap.size U w9 := hA.trans (below_own hoA hg (Nat.le_refl _) hA.size)
  have hl : (r.wait t ++ [(⟨r.id, (t : Int), (r.sent t : Int) + 1, false, body⟩ : PktP)]).length = m + 1 := by rw [List.length_append, hm]; rfl
  have hp := hf.put ht (v := .slice a9 (m + 1) k9) (l := r.wait t ++ [⟨r.id, (t : Int), (r.sent t : Int) + 1, false, body⟩]) (w' := w9) (below_grown hG _) (by rw [hl, List.flatMap_append]; exact own_base ho (Nat.zero_le _)) (fun g e => Or.inr (ho.lt g e).1)
  have hp2 := hp.weak (G := fun g => F g ∨ w.heap.size ≤ g) (fun g _ h => h.imp id (fun h => by omega))
  refine ⟨⟨⟨upd vs t (.slice a9 (m + 1) k9), ?_, hp2.setOther (fun k hk => famR_ne hp2 hB9 hk) _⟩, Or.inl hFB⟩, hc.trans ((Chg.fresh F hG).trans (Chg.setCell _ hFB _))⟩
  rw [blkR_set hB9, cellsR_setWait ht]
  have e : (fun k => ((sentP r t body).sent k : Int)) = upd (fun k => (r.sent k : Int)) t ((r.sent t : Int) + 1) := by
    funext k
    show ((upd r.sent t (r.sent t + 1) k : Nat) : Int) = _
    unfold upd
    by_cases h : k = t
    · subst h; simp
    · simp [h]
  rw [e]
  rfl
set_option maxHeartbeats 4000000 in
set_option maxRecDepth 100000 in
theorem sendR_law (r : RelP) (dst : Int) (body : List UInt8) (F : Nat → Prop) (w : World) (B : Nat) (h : RefX F w B r) (hw : ∀ k, k < 10 → (r.wait k).length ≤ 16) (hs : ∀ k, k < 10 → r.sent k ≤ 1152921504606846976) :
    Calls Try.prog 19 #[.pointer (some ⟨B, 0, none⟩), .int .i64 dst, str body] w fun e w' => e = .returned (.int .i64 (sendP r dst body).2) ∧ RefX (fun g => F g ∨ w.heap.size ≤ g) w' B (sendP r dst body).1 ∧ Chg F w w' := by
  have h0 := Lib.hid h
  obtain ⟨⟨vs, hB, hf⟩, hFB⟩ := h
  have c0 := cell_n hB 0 (cellsR_id)
  cases hm : mayTo r.id dst
  · have e1 : sendP r dst body = (r, 13) := by unfold sendP; rw [hm]; rfl
    rw [e1]
    have hpost : Hid (RefX (fun g => F g ∨ w.heap.size ≤ g) w B r) := h0.out.weak (fun g _ hg => Or.inl hg)
    rcases mayTo_false hm with h1 | h1
    · have q1 : decide (dst < 1) = true := decide_eq_true h1
      clear hB hf hm e1 h1 hw hs
      go_enter Try.func19, Try.ntmps19
      go_wp2_with fail
      go_ret
      exact ⟨rfl, hpost.out, Chg.refl _ _⟩
    · by_cases h3 : dst < 1
      · have q1 : decide (dst < 1) = true := decide_eq_true h3
        clear hB hf hm e1 h1 h3 hw hs
        go_enter Try.func19, Try.ntmps19
        go_wp2_with fail
        go_ret
        exact ⟨rfl, hpost.out, Chg.refl _ _⟩
      have q1 : decide (dst < 1) = false := decide_eq_false h3
      rcases h1 with h1 | h1
      · have q2 : decide (9 < dst) = true := decide_eq_true h1
        clear hB hf hm e1 h1 h3 hw hs
        go_enter Try.func19, Try.ntmps19
        go_wp2_with fail
        go_ret
        exact ⟨rfl, hpost.out, Chg.refl _ _⟩
      · by_cases h4 : 9 < dst
        · have q2 : decide (9 < dst) = true := decide_eq_true h4
          clear hB hf hm e1 h1 h3 h4 hw hs
          go_enter Try.func19, Try.ntmps19
          go_wp2_with fail
          go_ret
          exact ⟨rfl, hpost.out, Chg.refl _ _⟩
        · have q2 : decide (9 < dst) = false := decide_eq_false h4
          have q3 : (dst == r.id) = true := beq_iff_eq.2 h1
          clear hB hf hm e1 h1 h3 h4 hw hs
          go_enter Try.func19, Try.ntmps19
          go_wp2_with fail
          go_ret
          exact ⟨rfl, hpost.out, Chg.refl _ _⟩
  · obtain ⟨h1, h2, h3⟩ := mayTo_true hm
    obtain ⟨t, rfl⟩ : ∃ t : Nat, dst = (t : Int) := ⟨dst.toNat, by omega⟩
    have ht : t < 10 := by omega
    have htn : ((t : Int)).toNat = t := by omega
    have q1 : decide ((t : Int) < 1) = false := decide_eq_false (by omega)
    have q2 : decide ((9 : Int) < (t : Int)) = false := decide_eq_false (by omega)
    have q3 : ((t : Int) == r.id) = false := beq_eq_false_iff_ne.2 h3
    have hti : (t : Int) < 10 := by omega
    have hwt := hw t ht
    have hst := hs t ht
    obtain ⟨a, c, hv⟩ := rel_slice hf ht
    have hne := famR_ne hf hB ht
    have c1 := cell_n hB (1 + t) (cellsR_sent ht)
    have c2 := cell_n hB (11 + t) (cellsR_wait ht)
    have f1 := free_n hB (1 + t)
    have f2 := free_n hB (11 + t)
    rw [hv] at c2
    by_cases hfull : (r.wait t).length = 16
    · have e1 : sendP r (t : Int) body = (r, 4) := by unfold sendP; rw [if_pos hm, htn, if_pos hfull]
      rw [e1]
      have hpost : Hid (RefX (fun g => F g ∨ w.heap.size ≤ g) w B r) := h0.out.weak (fun g _ hg => Or.inl hg)
      rw [hfull] at c2
      clear hB hf hm e1 h1 h2 h3 hw hs hv hne hwt hfull htn
      go_enter Try.func19, Try.ntmps19
      go_wp2_with fail
      go_ret
      exact ⟨rfl, hpost.out, Chg.refl _ _⟩
    · have e1 : sendP r (t : Int) body = (sentP r t body, 0) := by unfold sendP; rw [if_pos hm, htn, if_neg hfull]
      rw [e1]
      have hwr : IntKind.i64.wrap ((r.sent t : Int) + 1) = (r.sent t : Int) + 1 := IntWalk.i64_in _ (by omega)
      have q4 : (((r.wait t).length : Int) == 16) = false := beq_eq_false_iff_ne.2 (by omega)
      obtain ⟨U, hU⟩ := hide ((w.setCell ⟨B, 1 + t, none⟩ (.int .i64 ((r.sent t : Int) + 1))).drew)
      have HcU : Hid (Chg F w U) := by show Chg _ _ _; rw [← hU.out]; exact (Chg.setCell w hFB _).trans (Chg.drew F _)
      have HsU : Hid (U.heap.size = w.heap.size) := by show _ = _; rw [← hU.out]; simp
      have HUb : Hid (U.heap[B]? = some (blkR r.id (upd (fun k => (r.sent k : Int)) t ((r.sent t : Int) + 1)) vs (fun k => (r.came k : Int)))) := by
        show _ = _
        rw [← hU.out]
        show (w.setCell _ _).heap[B]? = _
        rw [blkR_set hB, cellsR_setSent ht]
      have HUf : Hid (Fam 34 5 rowP 10 F U vs r.wait) := by
        show Fam _ _ _ _ _ _ _ _
        rw [← hU.out]
        exact (hf.setOther (fun k hk => famR_ne hf hB hk) _).agree (Agree.drew F _)
      obtain ⟨m, hmm⟩ := hide (r.wait t).length
      have Hm := Lib.hid hmm.out
      have Hv := Lib.hid hv
      rw [hmm.out] at c2 hwt q4
      have Hsrc : Hid (Src Try.prog 5 28 (.slice a m c) m ((r.wait t).flatMap rowP) U) := by
        have h := HUf.out.own t ht
        rw [hv, hmm.out] at h
        exact src_own Try.underlying28 h (fun u hu => by obtain ⟨p, _, hp⟩ := List.mem_flatMap.1 hu; exact rowP_one p u hp)
      have HoN : Hid (U.ownsRow U.heap.size 34 5 (.slice none 0 0) 0 []) := World.ownsRow_nil _ _ _ _
      have v0 := cell_n HUb.out 0 cellsR_id
      have v2 := cell_n HUb.out (11 + t) (cellsR_wait ht)
      rw [hv, hmm.out] at v2
      have Hht := Lib.hid ht
      clear hB hf hm e1 h1 h2 h3 hw hs hv hfull htn
      go_enter Try.func19, Try.ntmps19
      go_upto_region 5 with fail
      go_region
      all_goals
        rw [hU.out]
        clear c0 c1 c2 f1 f2
        go_wp2_with (at_builtin; refine wpList_append_src rfl _ _ 28 28 rfl U.heap.size 34 _ 5 48 Try.underlying28 info_pkt rfl _ _ _ rfl HoN.out _ _ _ rfl Hsrc.out (by unfold maxLen; omega) (by omega) (Nat.le_refl _) ?_)
        intro v2' w2 ho2 hg2
        obtain ⟨a3, k3, rfl⟩ := owns_slice ho2
        have hb2 : Below U.heap.size U w2 := ⟨hg2.os, hg2.tape, hg2.output, hg2.size, fun j hj => hg2.block j hj (by simp [Value.ownBlock])⟩
        have Hb2 := Lib.hid hb2
        have HB2 : Hid (w2.heap[B]? = some (blkR r.id (upd (fun k => (r.sent k : Int)) t ((r.sent t : Int) + 1)) vs (fun k => (r.came k : Int)))) := (hb2.block B (lt_of_block HUb.out)).trans HUb.out
        have HoA : Hid ((w2.drew.alloc (.cells #[.int .i64 r.id, .int .i64 (t : Int), .int .i64 ((r.sent t : Int) + 1), .bool false, str body] 34)).ownsRow U.heap.size 34 5 (.slice a3 m k3) m ((r.wait t).flatMap rowP)) := ho2.drew.alloc _
        have HsA : Hid (Src Try.prog 5 28 (.slice (some ⟨w2.drew.heap.size, 0, none⟩) 1 1) 1 [.int .i64 r.id, .int .i64 (t : Int), .int .i64 ((r.sent t : Int) + 1), .bool false, str body] (w2.drew.alloc (.cells #[.int .i64 r.id, .int .i64 (t : Int), .int .i64 ((r.sent t : Int) + 1), .bool false, str body] 34))) :=
          src_new (w := w2.drew) Try.underlying28 _ 1 rfl (rowP_one ⟨r.id, t, (r.sent t : Int) + 1, false, body⟩)
        have HBk : Hid (∀ w9 : World, (w2.drew.alloc (.cells #[.int .i64 r.id, .int .i64 (t : Int), .int .i64 ((r.sent t : Int) + 1), .bool false, str body] 34)).grownBy w9 (Value.slice a3 m k3).ownBlock → w9.heap[B]? = some (blkR r.id (upd (fun k => (r.sent k : Int)) t ((r.sent t : Int) + 1)) vs (fun k => (r.came k : Int)))) := fun w9 hg => by
          have hlt := lt_of_block HB2.out
          have hlt0 := lt_of_block HUb.out
          rw [hg.block B (by simp; omega) (fun e => by have := (ho2.lt B e.symm).1; omega), hp_past _ _ (by show B ≠ w2.heap.size; omega)]
          exact HB2.out
        have HS2 : Hid (U.heap.size ≤ (w2.drew.alloc (.cells #[.int .i64 r.id, .int .i64 (t : Int), .int .i64 ((r.sent t : Int) + 1), .bool false, str body] 34)).heap.size) := by show _ ≤ _; have := hb2.size; simp; omega
        have x0 := cell_n HB2.out 0 cellsR_id
        have x1 := cell_n HB2.out (1 + t) (cellsR_sent ht)
        rw [upd_same] at x1
        clear ho2 hg2 hb2 v0 v2
        go_upto_region 8 with fail
        go_region_law (refine step_append_at (by rfl) _ _ 28 28 (by rfl) U.heap.size 34 _ 5 48 Try.underlying28 info_pkt rfl _ _ _ (by rfl) HoA.out _ 1 _ (by rfl) HsA.out (by unfold maxLen; omega) (by omega) HS2.out ?_; intro v9 w9 ho9 hg9 hb9; obtain ⟨a9, k9, rfl⟩ := owns_slice ho9; have hB9 := HBk.out _ hg9; have d2 := cell_n hB9 (11 + t) (cellsR_wait Hht.out); have g2 := free_n hB9 (11 + t); have Ho9 := Lib.hid ho9; have Hg9 := Lib.hid hg9; have HB9 := Lib.hid hB9; clear ho9 hg9 hb9 hB9)
        all_goals
          have HEnd := Lib.hid (sendR_fin body HUf.out HUb.out HcU.out HsU.out Hb2.out hFB Hht.out Hm.out HoA.out Ho9.out Hg9.out HB9.out)
          clear d2 g2
          go_wp2_with fail
          go_ret
          exact ⟨rfl, HEnd.out⟩
end Go.Proofs.Ytckclacdmpcpbaa
