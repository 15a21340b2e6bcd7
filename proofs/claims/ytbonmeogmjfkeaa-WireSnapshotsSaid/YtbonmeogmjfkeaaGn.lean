/-
  Numbers, one behind the other, of all bytes: the panicking reader's way.
-/
import Derived.Test.YtbonmeogmjfkeaaRc
namespace Go.Proofs.Ytbonmeogmjfkeaa
open Go.RowKit Wm Mm
set_option linter.unusedVariables false

theorem info_int : (Try.prog.info? 3).map (fun i => (i.zero, i.size, i.bytes)) = some (some (.int .i64 0), 1, 8) := by kernel_rfl

/-- how a reading call ends whose result is a slice of numbers, made behind block base -/
def GetsInts (base b : Nat) (w : World) (res : Res (List Nat)) (e : Ending) (w' : World) : Prop :=
  match res with
  | .ok (l, t) => ∃ v, e = .returned v ∧ w'.ownsRow base 3 1 v l.length (l.map vNat) ∧ Rd w' b t ∧ w.grownBy w' (some b)
  | .error z => e = stopped z ∧ w.grownBy w' (some b)

set_option maxHeartbeats 1000000 in
theorem getNumbers_f (b bc n : Nat) (s : List UInt8) (w : World) (hn : n ≤ 1000000) (h : Rd w b s) (hc : w.cell? ⟨bc, 0, none⟩ = some (.int .i64 n)) :
    Calls Try.prog 80 #[.pointer (some ⟨b, 0, none⟩), .pointer (some ⟨bc, 0, none⟩)] w (GetsInts w.heap.size b w (rdMany n [] s)) := by
  obtain ⟨res, HR⟩ := hide (rdMany n [] s)
  rw [HR.out]
  have hblt : b < w.heap.size := lt_of_block h.1
  obtain ⟨B, hB⟩ := hide w.heap.size
  have H := Lib.hid h
  rw [hB.out] at hblt ⊢
  go_enter Try.func80, Try.ntmps80
  go_wp2
  go_loopw [3, 5] (fun v i wr => ∃ k : Nat, ∃ acc : List Nat, ∃ u : List UInt8, i = .int .i64 k ∧ k ≤ n ∧ Hid (acc.length = k) ∧ Hid (Rd wr b u) ∧ Hid (w.grownBy wr (some b)) ∧ Hid (wr.ownsRow B 3 1 v acc.length (acc.map vNat)) ∧ Hid (rdMany (n - k) acc u = res))
    (fun _ i _ => n - (intOf i).toNat)
  case atStart => exact ⟨0, [], s, rfl, Nat.zero_le _, rfl, H, World.grownBy.refl _ _, World.ownsRow_nil _ _ _ _, HR⟩
  case round =>
    obtain ⟨k, acc, u, rfl, hk, hl, hr, hg, ho, hm⟩ := hrel
    by_cases hlt : k < n
    · go_wp2_with fail
      refine (number_rd hr.out).mono ?_
      intro e w1 hp
      have hm2 := hm.out
      rw [show n - k = (n - (k + 1)) + 1 from by omega, rdMany] at hm2
      cases hx : rdNum u with
      | error z =>
        rw [hx] at hp hm2
        obtain ⟨rfl, hg1⟩ := hp
        have Hg := Lib.hid (grown_trans hg.out hg1)
        have e1 : .error z = res := hm2
        subst e1
        clear hg1 hx hm2
        go_wp2_with fail
        exact ⟨rfl, rfl, Hg.out⟩
      | ok p =>
        obtain ⟨x, t⟩ := p
        rw [hx] at hp hm2
        obtain ⟨rfl, hr1, hg1⟩ := hp
        have Hm2 := Lib.hid hm2
        have Hr1 := Lib.hid hr1
        have Hg1 := Lib.hid (grown_trans hg.out hg1)
        have Ho1 := Lib.hid (ho.out.kept hg1 (Or.inr (own_other ho.out hblt).symm))
        have hBs : B ≤ w1.heap.size := by rw [← hB.out]; exact Nat.le_trans hg.out.size hg1.size
        have Hal : Hid (acc.length + 1 ≤ 1000001) := by have := hl.out; show _ ≤ _; omega
        clear hr1 hg1 hm2 hx
        go_wp2_with (at_builtin; refine wpList_push rfl _ _ 25 rfl B 3 (.int .i64 0) 1 8 Try.underlying25 info_int rfl (by decide) _ _ _ rfl Ho1.out _ rfl rfl (by intro u hu; simp at hu; subst hu; rfl) (by have := Hal.out; unfold maxLen; omega) (by have := Hal.out; omega) hBs ?_)
        intro v' w2 ho2 hg2
        have Hr2 := Lib.hid (Hr1.out.kept hg2 (own_other Ho1.out hblt))
        have Hg2 := Lib.hid (grown_own Hg1.out Ho1.out (by rw [hB.out]; exact Nat.le_refl _) hg2)
        have Ho2 : Hid (w2.ownsRow B 3 1 v' (acc ++ [x]).length ((acc ++ [x]).map vNat)) := by
          show _
          have e1 : (acc ++ [x]).length = acc.length + 1 := by simp
          have e2 : (acc ++ [x]).map vNat = acc.map vNat ++ [.int .i64 x] := by simp
          rw [e1, e2]; exact ho2
        clear ho2 hg2
        go_wp2_with fail
        go_roundw
        case rel => exact ⟨k + 1, acc ++ [x], t, by go_num, by omega, by have := hl.out; show _ = _; simp [this], Hr2, Hg2, Ho2, Hm2⟩
        case measure => simp [intOf]; omega
    · have hkn : k = n := by omega
      have e1 : .ok (acc, u) = res := by rw [← hm.out, show n - k = 0 from by omega]; rfl
      subst e1
      have Hkn := Lib.hid hkn
      clear hkn
      go_wp2_with fail
      go_ret
      exact ⟨_, rfl, ho.out, hr.out, hg.out⟩
end Go.Proofs.Ytbonmeogmjfkeaa
