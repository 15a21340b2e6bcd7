/-
  The program's relay and the reference's as two objects apart from each other: what holds behind each call of both.
-/
import Derived.Test.YtckclacdmpcpbaaYn
namespace Go.Proofs.Ytckclacdmpcpbaa
open Go.RowKit Wm Mm Rl
set_option linter.unusedVariables false
set_option linter.unusedSimpArgs false

/-- bounds -/
structure Ok2 (n : Nat) (r : RelP) : Prop where
  wt : ∀ k, k < 10 → (r.wait k).length ≤ 16
  sn : ∀ k, k < 10 → r.sent k ≤ n
  cm : ∀ k, k < 10 → r.came k ≤ n
theorem Ok2.new (id : Int) : Ok2 0 (newP id) := ⟨fun _ _ => Nat.zero_le _, fun _ _ => Nat.le_refl _, fun _ _ => Nat.le_refl _⟩
theorem Ok2.mono {n m : Nat} {r : RelP} (h : Ok2 n r) (hm : n ≤ m) : Ok2 m r := ⟨h.wt, fun k hk => Nat.le_trans (h.sn k hk) hm, fun k hk => Nat.le_trans (h.cm k hk) hm⟩
theorem Ok2.send {n : Nat} {r : RelP} (h : Ok2 n r) (dst : Int) (body : List UInt8) : Ok2 (n + 1) (sendP r dst body).1 := by
  unfold sendP
  split
  · split
    · exact h.mono (by omega)
    · next hm hl =>
      have hdst := mayTo_true hm
      refine ⟨fun k hk => ?_, fun k hk => ?_, fun k hk => Nat.le_trans (h.cm k hk) (by omega)⟩
      · show (upd r.wait dst.toNat _ k).length ≤ 16
        unfold upd
        split
        · next e =>
          subst e
          have := h.wt dst.toNat hk
          rw [List.length_append]
          simp
          omega
        · exact h.wt k hk
      · show upd r.sent dst.toNat _ k ≤ _
        unfold upd
        split
        · next e => subst e; have := h.sn dst.toNat hk; omega
        · exact Nat.le_trans (h.sn k hk) (by omega)
  · exact h.mono (by omega)
theorem Ok2.came {n : Nat} {r : RelP} (h : Ok2 n r) (f : Nat) : Ok2 (n + 1) (cameP r f) := by
  refine ⟨h.wt, fun k hk => Nat.le_trans (h.sn k hk) (by omega), fun k hk => ?_⟩
  show upd r.came f _ k ≤ _
  unfold upd
  split
  · next e => subst e; have := h.cm k hk; omega
  · exact Nat.le_trans (h.cm k hk) (by omega)
theorem Ok2.recv {n : Nat} {r : RelP} (h : Ok2 n r) (x : PktP) : Ok2 (n + 1) (recvP r x).1 := by
  unfold recvP
  split
  · simp only []
    split
    · refine ⟨fun k hk => ?_, fun k hk => Nat.le_trans (h.sn k hk) (by omega), fun k hk => Nat.le_trans (h.cm k hk) (by omega)⟩
      show (upd r.wait x.frm.toNat _ k).length ≤ 16
      unfold upd
      split
      · next e =>
        subst e
        exact Nat.le_trans (List.length_filter_le _ _) (h.wt _ hk)
      · exact h.wt k hk
    · split
      · exact h.came _
      · split <;> exact h.mono (by omega)
  · exact h.mono (by omega)
theorem Ok2.packets {n : Nat} {r : RelP} (h : Ok2 n r) : (packetsP r).length ≤ 160 := by
  unfold packetsP
  have key : ∀ m, m ≤ 10 → ((List.range m).flatMap r.wait).length ≤ 16 * m := by
    intro m
    induction m with
    | zero => intro _; exact Nat.le_refl _
    | succ m ih =>
      intro hm
      rw [List.range_succ, List.flatMap_append, List.length_append, List.flatMap_cons, List.flatMap_nil, List.append_nil]
      have := ih (by omega)
      have := h.wt m (by omega)
      omega
  exact key 10 (Nat.le_refl _)
theorem recv_few (r : RelP) (x : PktP) : (recvP r x).2.1.length ≤ 1 ∧ (recvP r x).2.2.length ≤ 1 := by
  unfold recvP
  split
  · simp only []
    split
    · exact ⟨Nat.zero_le _, Nat.zero_le _⟩
    · split
      · exact ⟨Nat.le_refl _, Nat.le_refl _⟩
      · split
        · exact ⟨Nat.zero_le _, Nat.zero_le _⟩
        · exact ⟨Nat.zero_le _, Nat.le_refl _⟩
  · exact ⟨Nat.zero_le _, Nat.zero_le _⟩

/-- the program's relay at X and the reference's at Y, apart from each other, from the block A on; none of it lies in N -/
structure Two (A : Nat) (N : Nat → Prop) (w : World) (X Y : Nat) (r s : RelP) : Prop where
  ex : ∃ F G : Nat → Prop, RelX F w X r ∧ RefX G w Y s ∧ (∀ g, F g → ¬ G g) ∧ (∀ g, F g ∨ G g → A ≤ g ∧ g < w.heap.size ∧ ¬ N g)
theorem Two.le {A : Nat} {N : Nat → Prop} {w : World} {X Y : Nat} {r s : RelP} (h : Two A N w X Y r s) : A ≤ w.heap.size := by
  obtain ⟨F, G, hF, hG, hd, hb⟩ := h.ex
  have := hb X (Or.inl hF.foot)
  omega
theorem Two.weak {A : Nat} {N M : Nat → Prop} {w : World} {X Y : Nat} {r s : RelP} (h : Two A N w X Y r s) (hM : ∀ g, M g → N g) : Two A M w X Y r s := by
  obtain ⟨F, G, hF, hG, hd, hb⟩ := h.ex
  exact ⟨F, G, hF, hG, hd, fun g hg => ⟨(hb g hg).1, (hb g hg).2.1, fun hm => (hb g hg).2.2 (hM g hm)⟩⟩
theorem Two.keep {A : Nat} {N : Nat → Prop} {w w' : World} {X Y : Nat} {r s : RelP} (h : Two A N w X Y r s) (hc : Chg N w w') : Two A N w' X Y r s := by
  obtain ⟨F, G, hF, hG, hd, hb⟩ := h.ex
  exact ⟨F, G, hF.agree (hc.agree (fun k hk => (hb k (Or.inl hk)).2.2)), hG.agree (hc.agree (fun k hk => (hb k (Or.inr hk)).2.2)), hd, fun g hg => ⟨(hb g hg).1, Nat.lt_of_lt_of_le (hb g hg).2.1 hc.size, (hb g hg).2.2⟩⟩
theorem Two.new {A : Nat} {N : Nat → Prop} {w w' : World} {X Y : Nat} {r s : RelP} (h : Two A N w X Y r s) (hb : Below w.heap.size w w') : Two A N w' X Y r s := h.keep (Chg.fresh N hb)
/-- behind a call that made memory: all that is new is free -/
theorem Two.fresh {A : Nat} {N : Nat → Prop} {w w' : World} {X Y : Nat} {r s : RelP} (h : Two A N w X Y r s) (hb : Below w.heap.size w w') : Two A (fun g => w.heap.size ≤ g ∧ g < w'.heap.size) w' X Y r s := by
  obtain ⟨F, G, hF, hG, hd, hk⟩ := h.ex
  exact ⟨F, G, hF.agree (Agree.below hb), hG.agree (Agree.below hb), hd, fun g hg => ⟨(hk g hg).1, Nat.lt_of_lt_of_le (hk g hg).2.1 hb.size, fun e => by have := (hk g hg).2.1; omega⟩⟩
/-- behind a call that changed the program's -/
theorem Two.putX {A : Nat} {N : Nat → Prop} {w w' : World} {X Y : Nat} {r' s : RelP} {F G : Nat → Prop} (hG : RefX G w Y s) (hd : ∀ g, F g → ¬ G g) (hb : ∀ g, F g ∨ G g → A ≤ g ∧ g < w.heap.size ∧ ¬ N g) (hN : ∀ g, N g → g < w.heap.size) (hA : A ≤ w.heap.size)
    (hX : RelX (fun g => F g ∨ w.heap.size ≤ g) w' X r') (hc : Chg F w w') : Two A N w' X Y r' s ∧ Below A w w' ∧ Agree N w w' := by
  refine ⟨⟨fun g => (F g ∨ w.heap.size ≤ g) ∧ g < w'.heap.size, G, hX.weak (fun g h1 h2 => ⟨h2, h1⟩), hG.agree (hc.agree (fun k hk hF => hd k hF hk)), fun g hg hgG => ?_, fun g hg => ?_⟩, hc.toBelow (fun k hk => (hb k (Or.inl hk)).1) hA, hc.agree (fun k hk hF => (hb k (Or.inl hF)).2.2 hk)⟩
  · rcases hg.1 with h1 | h1
    · exact hd g h1 hgG
    · have := (hb g (Or.inr hgG)).2.1; omega
  · rcases hg with ⟨h1 | h1, h2⟩ | h1
    · exact ⟨(hb g (Or.inl h1)).1, h2, (hb g (Or.inl h1)).2.2⟩
    · exact ⟨by omega, h2, fun hn => by have := hN g hn; omega⟩
    · exact ⟨(hb g (Or.inr h1)).1, Nat.lt_of_lt_of_le (hb g (Or.inr h1)).2.1 hc.size, (hb g (Or.inr h1)).2.2⟩
theorem Two.putY {A : Nat} {N : Nat → Prop} {w w' : World} {X Y : Nat} {r s' : RelP} {F G : Nat → Prop} (hF : RelX F w X r) (hd : ∀ g, F g → ¬ G g) (hb : ∀ g, F g ∨ G g → A ≤ g ∧ g < w.heap.size ∧ ¬ N g) (hN : ∀ g, N g → g < w.heap.size) (hA : A ≤ w.heap.size)
    (hY : RefX (fun g => G g ∨ w.heap.size ≤ g) w' Y s') (hc : Chg G w w') : Two A N w' X Y r s' ∧ Below A w w' ∧ Agree N w w' := by
  refine ⟨⟨F, fun g => (G g ∨ w.heap.size ≤ g) ∧ g < w'.heap.size, hF.agree (hc.agree (fun k hk hG => hd k hk hG)), hY.weak (fun g h1 h2 => ⟨h2, h1⟩), fun g hg hgG => ?_, fun g hg => ?_⟩, hc.toBelow (fun k hk => (hb k (Or.inr hk)).1) hA, hc.agree (fun k hk hG => (hb k (Or.inr hG)).2.2 hk)⟩
  · rcases hgG.1 with h1 | h1
    · exact hd g hg h1
    · have := (hb g (Or.inl hg)).2.1; omega
  · rcases hg with h1 | ⟨h1 | h1, h2⟩
    · exact ⟨(hb g (Or.inl h1)).1, Nat.lt_of_lt_of_le (hb g (Or.inl h1)).2.1 hc.size, (hb g (Or.inl h1)).2.2⟩
    · exact ⟨(hb g (Or.inr h1)).1, h2, (hb g (Or.inr h1)).2.2⟩
    · exact ⟨by omega, h2, fun hn => by have := hN g hn; omega⟩

theorem Two.sendX {A n : Nat} {N : Nat → Prop} {w : World} {X Y : Nat} {r s : RelP} (h : Two A N w X Y r s) (hN : ∀ g, N g → g < w.heap.size) (ho : Ok2 n r) (hn : n ≤ 1152921504606846976) (dst : Int) (body : List UInt8) :
    Calls Try.prog 16 #[.pointer (some ⟨X, 0, none⟩), .int .i64 dst, str body] w fun e w' => e = .returned (.int .i64 (sendP r dst body).2) ∧ Two A N w' X Y (sendP r dst body).1 s ∧ Below A w w' ∧ Agree N w w' := by
  obtain ⟨F, G, hF, hG, hd, hb⟩ := h.ex
  refine (send_law r dst body F w X hF ho.wt (fun k hk => Nat.le_trans (ho.sn k hk) hn)).mono ?_
  rintro e w' ⟨rfl, hX, hc⟩
  exact ⟨rfl, Two.putX hG hd hb hN h.le hX hc⟩
theorem Two.sendY {A n : Nat} {N : Nat → Prop} {w : World} {X Y : Nat} {r s : RelP} (h : Two A N w X Y r s) (hN : ∀ g, N g → g < w.heap.size) (ho : Ok2 n s) (hn : n ≤ 1152921504606846976) (dst : Int) (body : List UInt8) :
    Calls Try.prog 19 #[.pointer (some ⟨Y, 0, none⟩), .int .i64 dst, str body] w fun e w' => e = .returned (.int .i64 (sendP s dst body).2) ∧ Two A N w' X Y r (sendP s dst body).1 ∧ Below A w w' ∧ Agree N w w' := by
  obtain ⟨F, G, hF, hG, hd, hb⟩ := h.ex
  refine (sendR_law s dst body G w Y hG ho.wt (fun k hk => Nat.le_trans (ho.sn k hk) hn)).mono ?_
  rintro e w' ⟨rfl, hY, hc⟩
  exact ⟨rfl, Two.putY hF hd hb hN h.le hY hc⟩
theorem Two.packetsX {A n : Nat} {N : Nat → Prop} {w : World} {X Y : Nat} {r s : RelP} (h : Two A N w X Y r s) (ho : Ok2 n r) :
    Calls Try.prog 17 #[.pointer (some ⟨X, 0, none⟩)] w fun e w' => ∃ v', e = .returned v' ∧ w'.ownsRow w.heap.size 34 5 v' (packetsP r).length ((packetsP r).flatMap rowP) ∧ Below w.heap.size w w' := by
  obtain ⟨F, G, hF, hG, hd, hb⟩ := h.ex
  exact packets_law r F w X hF ho.wt
theorem Two.packetsY {A n : Nat} {N : Nat → Prop} {w : World} {X Y : Nat} {r s : RelP} (h : Two A N w X Y r s) (ho : Ok2 n s) :
    Calls Try.prog 24 #[.pointer (some ⟨Y, 0, none⟩)] w fun e w' => ∃ v', e = .returned v' ∧ w'.ownsRow w.heap.size 34 5 v' (packetsP s).length ((packetsP s).flatMap rowP) ∧ Below w.heap.size w w' := by
  obtain ⟨F, G, hF, hG, hd, hb⟩ := h.ex
  exact packetsR_law s G w Y hG ho.wt
theorem Two.recvX {A n : Nat} {N : Nat → Prop} {w : World} {X Y : Nat} {r s : RelP} (h : Two A N w X Y r s) (ho : Ok2 n r) (hn : n ≤ 1152921504606846976) (x : PktP) :
    Calls Try.prog 20 #[.pointer (some ⟨X, 0, none⟩), .agg #[.int .i64 x.frm, .int .i64 x.to, .int .i64 x.num, .bool x.ack, str x.body]] w fun e w' => ∃ pv av, e = .returned (.tuple #[pv, av]) ∧
      w'.ownsRow w.heap.size 42 2 pv (recvP r x).2.1.length ((recvP r x).2.1.flatMap rowR) ∧ w'.ownsRow w.heap.size 34 5 av (recvP r x).2.2.length ((recvP r x).2.2.flatMap rowP) ∧ Two A (fun g => N g ∨ (w.heap.size ≤ g ∧ g < w'.heap.size)) w' X Y (recvP r x).1 s ∧ Below A w w' ∧ Agree N w w' := by
  obtain ⟨F, G, hF, hG, hd, hb⟩ := h.ex
  refine (recv_law r x F w X hF ho.wt (fun k hk => Nat.le_trans (ho.sn k hk) hn) (fun k hk => Nat.le_trans (ho.cm k hk) hn)).mono ?_
  rintro e w' ⟨pv, av, rfl, h1, h2, hX, hc⟩
  refine ⟨pv, av, rfl, h1, h2, ⟨F, G, hX, hG.agree (hc.agree (fun k hk hF => hd k hF hk)), hd, fun g hg => ⟨(hb g hg).1, Nat.lt_of_lt_of_le (hb g hg).2.1 hc.size, fun e => e.elim (hb g hg).2.2 (fun e => by have := (hb g hg).2.1; omega)⟩⟩, hc.toBelow (fun k hk => (hb k (Or.inl hk)).1) h.le, hc.agree (fun k hk hF => (hb k (Or.inl hF)).2.2 hk)⟩
theorem Two.recvY {A n : Nat} {N : Nat → Prop} {w : World} {X Y : Nat} {r s : RelP} (h : Two A N w X Y r s) (hN : ∀ g, N g → g < w.heap.size) (ho : Ok2 n s) (hn : n ≤ 1152921504606846976) (x : PktP) :
    Calls Try.prog 21 #[.pointer (some ⟨Y, 0, none⟩), .agg #[.int .i64 x.frm, .int .i64 x.to, .int .i64 x.num, .bool x.ack, str x.body]] w fun e w' => ∃ pv av, e = .returned (.tuple #[pv, av]) ∧
      w'.ownsRow w.heap.size 42 2 pv (recvP s x).2.1.length ((recvP s x).2.1.flatMap rowR) ∧ w'.ownsRow w.heap.size 34 5 av (recvP s x).2.2.length ((recvP s x).2.2.flatMap rowP) ∧ Two A N w' X Y r (recvP s x).1 ∧ Below A w w' ∧ Agree N w w' := by
  obtain ⟨F, G, hF, hG, hd, hb⟩ := h.ex
  refine (recvR_law s x G w Y hG ho.wt (fun k hk => Nat.le_trans (ho.sn k hk) hn) (fun k hk => Nat.le_trans (ho.cm k hk) hn)).mono ?_
  rintro e w' ⟨pv, av, rfl, h1, h2, hY, hc⟩
  exact ⟨pv, av, rfl, h1, h2, Two.putY hF hd hb hN h.le hY hc⟩
theorem two_new {w w1 w2 : World} {A X Y : Nat} {id : Int} (hA : A ≤ w.heap.size) (hX : X = w.heap.size) (hb1 : Below w.heap.size w w1) (h1 : RelX (fun g => w.heap.size ≤ g) w1 X (newP id)) (hY : Y = w1.heap.size) (hb2 : Below w1.heap.size w1 w2) (h2 : RefX (fun g => w1.heap.size ≤ g) w2 Y (newP id)) :
    Two A (fun _ => False) w2 X Y (newP id) (newP id) := by
  have hs := hb1.size
  have hs2 := hb2.size
  refine ⟨fun g => w.heap.size ≤ g ∧ g < w1.heap.size, fun g => w1.heap.size ≤ g ∧ g < w2.heap.size, RelX.agree (w := w1) (h1.weak (fun g h h' => ⟨h', h⟩)) ⟨hb2.size, fun k hk h => hb2.block k hk.2⟩, h2.weak (fun g h h' => ⟨h', h⟩), fun g h h' => by omega, fun g hg => ⟨by omega, by omega, fun h => h⟩⟩
end Go.Proofs.Ytckclacdmpcpbaa
