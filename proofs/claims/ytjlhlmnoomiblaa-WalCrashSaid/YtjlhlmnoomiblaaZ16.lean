/-
  Reading entries and configurations, the panicking reader's way.
-/
import Derived.Test.YtjlhlmnoomiblaaZ09
import Derived.Test.YtjlhlmnoomiblaaZ15
import Derived.Test.YtjlhlmnoomiblaaZ11
import Derived.Test.YtjlhlmnoomiblaaZ12
import Derived.Deep.DeepCutAuto
namespace Go.Proofs.Ytjlhlmnoomiblaa
open Go.RowKit Wm Mm
set_option linter.unusedVariables false

theorem ints_own (l : List Nat) : (ints l).map (Value.int .i64) = l.map vNat := by simp [ints, Function.comp_def]
def rdList (most : Nat) (s : List UInt8) : Res (List Nat) :=
  match rdUpTo most s with
  | .error z => .error z
  | .ok (n, t) => rdMany n [] t
structure Ent where
  index : Nat
  term : Nat
  kind : Nat
  data : List UInt8
abbrev vE (e : Ent) : Value := vEnt e.index e.term e.kind e.data
def rdEnt (s : List UInt8) : Res Ent :=
  match rdNum s with
  | .error z => .error z
  | .ok (i, s1) => match rdNum s1 with
    | .error z => .error z
    | .ok (t, s2) => match rdNum s2 with
      | .error z => .error z
      | .ok (k, s3) => match rdText 256 s3 with
        | .error z => .error z
        | .ok (d, s4) => if isEntry i t k d = true then .ok (⟨i, t, k, d⟩, s4) else .error 6
def rdConf (s : List UInt8) : Res Conf :=
  match rdList 9 s with
  | .error z => .error z
  | .ok (l1, s1) => match rdList 9 s1 with
    | .error z => .error z
    | .ok (l2, s2) => match rdList 9 s2 with
      | .error z => .error z
      | .ok (l3, s3) => if validB ⟨ints l1, ints l2, ints l3⟩ = true then .ok (⟨ints l1, ints l2, ints l3⟩, s3) else .error 8
/-- how the reading of a configuration ends -/
def GetsConf (S b : Nat) (w : World) (res : Res Conf) (e : Ending) (w' : World) : Prop :=
  match res with
  | .ok (c, t) => ∃ x y z, e = .returned (.agg #[x, y, z]) ∧ Config3F S w' x y z c ∧ Rd w' b t ∧ w.grownBy w' (some b)
  | .error z => e = stopped z ∧ w.grownBy w' (some b)

set_option maxHeartbeats 1000000 in
theorem numbers_rd {b : Nat} {s : List UInt8} {w : World} (most : Nat) (hmost : most < 1000000) (h : Rd w b s) :
    Calls Try.prog 61 #[.pointer (some ⟨b, 0, none⟩), .int .i64 most] w (GetsInts w.heap.size b w (rdList most s)) := by
  obtain ⟨res, HR⟩ := hide (rdList most s)
  rw [HR.out]
  have hblt : b < w.heap.size := lt_of_block h.1
  have HU := Lib.hid (upTo_rd most (by omega) h)
  obtain ⟨B, hB⟩ := hide w.heap.size
  have H := Lib.hid h
  rw [hB.out] at hblt ⊢
  go_enter Try.func61, Try.ntmps61
  go_wp2_with fail
  refine HU.out.mono ?_
  intro e w0 hp
  have hR := HR.out
  unfold rdList at hR
  cases hx : rdUpTo most s with
  | error z =>
    rw [hx] at hp hR
    obtain ⟨rfl, hg⟩ := hp
    obtain rfl : .error z = res := hR
    have Hg := Lib.hid hg
    clear hg hx
    go_wp2_with fail
    exact ⟨rfl, rfl, Hg.out⟩
  | ok p =>
  obtain ⟨n, s0⟩ := p
  rw [hx] at hp hR
  obtain ⟨rfl, hr0, hg0⟩ := hp
  simp only [] at hR
  have hn : n ≤ 1000000 := by have := rdUpTo_le hx; omega
  have HR' := Lib.hid hR
  have Hr0 := Lib.hid hr0
  have Hg0 := Lib.hid hg0
  clear hR hr0 hg0 hx HU
  go_wp2_with fail
  go_loopw [4, 8] (fun v i wr => ∃ k : Nat, ∃ acc : List Nat, ∃ u : List UInt8, i = .int .i64 k ∧ k ≤ n ∧ Hid (acc.length = k) ∧ Hid (Rd wr b u) ∧ Hid (w.grownBy wr (some b)) ∧ Hid (wr.ownsRow B 3 1 v acc.length (acc.map vNat)) ∧ Hid (rdMany (n - k) acc u = res))
    (fun _ i _ => n - (intOf i).toNat)
  case atStart => exact ⟨0, [], s0, rfl, Nat.zero_le _, rfl, Hr0, Hg0, World.ownsRow_nil _ _ _ _, HR'⟩
  case round =>
    obtain ⟨k, acc, u, rfl, hk, hl, hr, hg, ho, hm⟩ := hrel
    by_cases hlt : k < n
    · go_wp2_with fail
      refine (number_rd hr.out).mono ?_
      intro e w1 hp
      have hm2 := hm.out
      rw [show n - k = (n - (k + 1)) + 1 from by omega, rdMany] at hm2
      cases hx : rdNum u with
      | error z =>
        rw [hx] at hp hm2
        obtain ⟨rfl, hg1⟩ := hp
        have Hg := Lib.hid (grown_trans hg.out hg1)
        have e1 : .error z = res := hm2
        subst e1
        clear hg1 hx hm2
        go_wp2_with fail
        exact ⟨rfl, rfl, Hg.out⟩
      | ok p =>
        obtain ⟨x, t⟩ := p
        rw [hx] at hp hm2
        obtain ⟨rfl, hr1, hg1⟩ := hp
        have Hm2 := Lib.hid hm2
        have Hr1 := Lib.hid hr1
        have Hg1 := Lib.hid (grown_trans hg.out hg1)
        have Ho1 := Lib.hid (ho.out.kept hg1 (Or.inr (own_other ho.out hblt).symm))
        have hBs : B ≤ w1.heap.size := by rw [← hB.out]; exact Nat.le_trans hg.out.size hg1.size
        have Hal : Hid (acc.length + 1 ≤ 1000001) := by have := hl.out; show _ ≤ _; omega
        clear hr1 hg1 hm2 hx
        go_wp2_with (at_builtin; refine wpList_push rfl _ _ 22 rfl B 3 (.int .i64 0) 1 8 Try.underlying22 info_int rfl (by decide) _ _ _ rfl Ho1.out _ rfl rfl (by intro u hu; simp at hu; subst hu; rfl) (by have := Hal.out; unfold maxLen; omega) (by have := Hal.out; omega) hBs ?_)
        intro v' w2 ho2 hg2
        have Hr2 := Lib.hid (Hr1.out.kept hg2 (own_other Ho1.out hblt))
        have Hg2 := Lib.hid (grown_own Hg1.out Ho1.out (by rw [hB.out]; exact Nat.le_refl _) hg2)
        have Ho2 : Hid (w2.ownsRow B 3 1 v' (acc ++ [x]).length ((acc ++ [x]).map vNat)) := by
          show _
          have e1 : (acc ++ [x]).length = acc.length + 1 := by simp
          have e2 : (acc ++ [x]).map vNat = acc.map vNat ++ [.int .i64 x] := by simp
          rw [e1, e2]; exact ho2
        clear ho2 hg2
        go_wp2_with fail
        go_roundw
        case rel => exact ⟨k + 1, acc ++ [x], t, by go_num, by omega, by have := hl.out; show _ = _; simp [this], Hr2, Hg2, Ho2, Hm2⟩
        case measure => simp [intOf]; omega
    · have hkn : k = n := by omega
      have e1 : .ok (acc, u) = res := by rw [← hm.out, show n - k = 0 from by omega]; rfl
      subst e1
      have Hkn := Lib.hid hkn
      clear hkn
      go_wp2_with fail
      go_ret
      exact ⟨_, rfl, ho.out, hr.out, hg.out⟩

set_option maxHeartbeats 2000000 in
theorem entry_rd {b : Nat} {s : List UInt8} {w : World} (h : Rd w b s) :
    Calls Try.prog 49 #[.pointer (some ⟨b, 0, none⟩)] w (Gets b w vE (rdEnt s)) := by
  obtain ⟨res, HR⟩ := hide (rdEnt s)
  rw [HR.out]
  have hbw : b < w.heap.size := lt_of_block h.1
  obtain ⟨w0, hW⟩ := hide (w.alloc (.cells #[.int .i64 0, .int .i64 0, .int .i64 0, str []] 37))
  have hc : w0.heap[w.heap.size]? = some (.cells #[.int .i64 0, .int .i64 0, .int .i64 0, str []] 37 (0, 0)) := by rw [← hW.out]; exact hp_at _ _ rfl
  have hg : w.grownBy w0 (some b) := by rw [← hW.out]; exact World.grownBy_alloc w _ _
  have hr : Rd w0 b s := h.kept (by rw [← hW.out]; exact World.grownBy_alloc w _ none) (by simp)
  have Hc0 := Lib.hid hc
  have Hg0 := Lib.hid hg
  have Hr0 := Lib.hid hr
  have Hne : Hid (some w.heap.size ≠ some b) := by show _ ≠ _; simp; omega
  have Hs0 : Hid (w.heap.size < w0.heap.size) := lt_of_block hc
  have Hbw := Lib.hid hbw
  have hrd0 : rdEnt s = res := HR.out
  unfold rdEnt at hrd0
  have HR0 := Lib.hid hrd0
  clear hc hg hr h hbw hrd0
  go_enter Try.func49, Try.ntmps49
  go_wp2_with fail
  rw [hW.out]
  refine (number_rd Hr0.out).mono ?_
  intro e w1 hp
  cases hx : rdNum s with
  | error z =>
    rw [hx] at hp
    obtain rfl : .error z = res := by have hh := HR0.out; rw [hx] at hh; exact hh
    obtain ⟨rfl, hg⟩ := hp
    have Hge := Lib.hid (grown_trans Hg0.out hg)
    clear hg hx
    go_wp2_with fail
    exact ⟨rfl, rfl, Hge.out⟩
  | ok p =>
  obtain ⟨i, s1⟩ := p
  rw [hx] at hp
  have hrd1 := HR0.out
  rw [hx] at hrd1
  simp only [] at hrd1
  have HR1 := Lib.hid hrd1
  obtain ⟨rfl, hr, hg⟩ := hp
  have Hr1 := Lib.hid hr
  have Hc1 := Lib.hid ((hg.block _ Hs0.out Hne.out).trans Hc0.out)
  have Hs1 := Lib.hid (Nat.lt_of_lt_of_le Hs0.out hg.size)
  have Hg1 := Lib.hid (grown_trans Hg0.out hg)
  clear hr hg hx hrd1
  go_wp2_with fail
  refine (number_rd Hr1.out).mono ?_
  intro e w2 hp
  cases hx : rdNum s1 with
  | error z =>
    rw [hx] at hp
    obtain rfl : .error z = res := by have hh := HR1.out; rw [hx] at hh; exact hh
    obtain ⟨rfl, hg⟩ := hp
    have Hge := Lib.hid (grown_trans Hg1.out hg)
    clear hg hx
    go_wp2_with fail
    exact ⟨rfl, rfl, Hge.out⟩
  | ok p =>
  obtain ⟨t, s2⟩ := p
  rw [hx] at hp
  have hrd2 := HR1.out
  rw [hx] at hrd2
  simp only [] at hrd2
  have HR2 := Lib.hid hrd2
  obtain ⟨rfl, hr, hg⟩ := hp
  have Hr2 := Lib.hid hr
  have Hc2 := Lib.hid ((hg.block _ Hs1.out Hne.out).trans Hc1.out)
  have Hs2 := Lib.hid (Nat.lt_of_lt_of_le Hs1.out hg.size)
  have Hg2 := Lib.hid (grown_trans Hg1.out hg)
  clear hr hg hx hrd2
  go_wp2_with fail
  refine (number_rd Hr2.out).mono ?_
  intro e w3 hp
  cases hx : rdNum s2 with
  | error z =>
    rw [hx] at hp
    obtain rfl : .error z = res := by have hh := HR2.out; rw [hx] at hh; exact hh
    obtain ⟨rfl, hg⟩ := hp
    have Hge := Lib.hid (grown_trans Hg2.out hg)
    clear hg hx
    go_wp2_with fail
    exact ⟨rfl, rfl, Hge.out⟩
  | ok p =>
  obtain ⟨k, s3⟩ := p
  rw [hx] at hp
  have hrd3 := HR2.out
  rw [hx] at hrd3
  simp only [] at hrd3
  have HR3 := Lib.hid hrd3
  obtain ⟨rfl, hr, hg⟩ := hp
  have Hr3 := Lib.hid hr
  have Hc3 := Lib.hid ((hg.block _ Hs2.out Hne.out).trans Hc2.out)
  have Hs3 := Lib.hid (Nat.lt_of_lt_of_le Hs2.out hg.size)
  have Hg3 := Lib.hid (grown_trans Hg2.out hg)
  clear hr hg hx hrd3
  go_wp2_with fail
  refine (text_rd 256 (by decide) Hr3.out).mono ?_
  intro e w4 hp
  cases hx : rdText 256 s3 with
  | error z =>
    rw [hx] at hp
    obtain rfl : .error z = res := by have hh := HR3.out; rw [hx] at hh; exact hh
    obtain ⟨rfl, hg⟩ := hp
    have Hge := Lib.hid (grown_trans Hg3.out hg)
    clear hg hx
    go_wp2_with fail
    exact ⟨rfl, rfl, Hge.out⟩
  | ok p =>
  obtain ⟨d, s4⟩ := p
  rw [hx] at hp
  have hrd4 := HR3.out
  rw [hx] at hrd4
  simp only [] at hrd4
  have HR4 := Lib.hid hrd4
  obtain ⟨rfl, hr, hg⟩ := hp
  have Hr4 := Lib.hid hr
  have Hc4 := Lib.hid ((hg.block _ Hs3.out Hne.out).trans Hc3.out)
  have Hs4 := Lib.hid (Nat.lt_of_lt_of_le Hs3.out hg.size)
  have Hg4 := Lib.hid (grown_trans Hg3.out hg)
  clear hr hg hx hrd4
  obtain ⟨W4, hW4⟩ := hide (w4.alloc (.cells #[.int .i64 (i : Nat), .int .i64 (t : Nat), .int .i64 (k : Nat), str d] 37))
  have hc4 : W4.heap[w.heap.size]? = some (.cells #[.int .i64 0, .int .i64 0, .int .i64 0, str []] 37 (0, 0)) := by rw [← hW4.out]; exact (hp_past _ _ (by have := Hs4.out; omega)).trans Hc4.out
  have hr4 : Rd W4 b s4 := Hr4.out.kept (by rw [← hW4.out]; exact World.grownBy_alloc w4 _ none) (by simp)
  have hg4 : w.grownBy W4 (some b) := by rw [← hW4.out]; exact grown_trans Hg4.out (World.grownBy_alloc w4 _ _)
  have hq4 : W4.heap[w4.heap.size]? = some (.cells #[.int .i64 (i : Nat), .int .i64 (t : Nat), .int .i64 (k : Nat), str d] 37 (0, 0)) := by rw [← hW4.out]; exact hp_at _ _ rfl
  have Hc4 := Lib.hid hc4
  have Hr4 := Lib.hid hr4
  have Hg4 := Lib.hid hg4
  have Hq4 := Lib.hid hq4
  have Hsz : Hid (w.heap.size ≠ w4.heap.size) := by have := Hs4.out; show _ ≠ _; omega
  have q0 := cell_n hq4 0 (v := .int .i64 (i : Nat)) rfl
  have q1 := cell_n hq4 1 (v := .int .i64 (t : Nat)) rfl
  have q2 := cell_n hq4 2 (v := .int .i64 (k : Nat)) rfl
  have q3 := cell_n hq4 3 (v := str d) rfl
  clear hc4 hr4 hg4 hq4
  have HV := Lib.hid ((wire_isEntry i t k d W4).mono fun e w' h => (⟨h.1, by rw [← h.2]; exact (Below.refl _ _).alloc (Nat.le_refl _) _⟩ : e = .returned (.bool (isEntry i t k d)) ∧ Below W4.heap.size W4 w'))
  go_upto_region 2 with fail
  rw [hW4.out]
  obtain ⟨Q, hQ⟩ := hide w4.heap.size
  rw [hQ.out] at Hq4 Hsz q0 q1 q2 q3 ⊢
  go_wp2_with fail
  refine HV.out.mono ?_
  rintro e w5 ⟨rfl, hb5⟩
  clear q0 q1 q2 q3
  have hq5 := (hb5.block _ (lt_of_block Hq4.out)).trans Hq4.out
  have hc5 := (hb5.block _ (lt_of_block Hc4.out)).trans Hc4.out
  have hr5 : Rd w5 b s4 := ⟨(hb5.block _ (lt_of_block Hr4.out.1)).trans Hr4.out.1, Hr4.out.2⟩
  have hg5 : w.grownBy w5 (some b) := grown_trans Hg4.out (below_grown hb5 _)
  have Hg5 := Lib.hid hg5
  have hrd9 := HR4.out
  cases hok : isEntry i t k d with
  | false =>
    obtain rfl : .error 6 = res := by rw [← hrd9, if_neg (by simp [hok])]
    clear hq5 hc5 hr5 hg5 hb5 hrd9 hok
    go_wp2_with (go_at_call 30; refine (fail_any _ _).mono ?_; rintro e w' ⟨rfl, rfl⟩)
    exact ⟨rfl, rfl, Hg5.out⟩
  | true =>
    obtain rfl : .ok (⟨i, t, k, d⟩, s4) = res := by rw [← hrd9, if_pos hok]
    have he := setAll_at hc5 [.int .i64 (i : Nat), .int .i64 (t : Nat), .int .i64 (k : Nat), str d] rfl
    have hre : Rd (setAll w5 w.heap.size [.int .i64 (i : Nat), .int .i64 (t : Nat), .int .i64 (k : Nat), str d]) b s4 := ⟨setAll_other hr5.1 (fun e => Hne.out (congrArg some e)) _, hr5.2⟩
    have hge := setAll_grown hg5 (Nat.le_refl _) [.int .i64 (i : Nat), .int .i64 (t : Nat), .int .i64 (k : Nat), str d]
    have He := Lib.hid he
    have Hre := Lib.hid hre
    have Hge := Lib.hid hge
    have q0 := cell_n hq5 0 (v := .int .i64 (i : Nat)) rfl
    have q1 := cell_n hq5 1 (v := .int .i64 (t : Nat)) rfl
    have q2 := cell_n hq5 2 (v := .int .i64 (k : Nat)) rfl
    have q3 := cell_n hq5 3 (v := str d) rfl
    have c0 := cell_n hc5 0 (v := .int .i64 0) rfl
    have f0 := free_n hc5 0
    have c1 := cell_n hc5 1 (v := .int .i64 0) rfl
    have f1 := free_n hc5 1
    have c2 := cell_n hc5 2 (v := .int .i64 0) rfl
    have f2 := free_n hc5 2
    have c3 := cell_n hc5 3 (v := str []) rfl
    have f3 := free_n hc5 3
    clear he hre hge hq5 hc5 hr5 hg5 hb5 hrd9 hok
    obtain ⟨B, hB⟩ := hide w.heap.size
    rw [hB.out] at c0 f0 c1 f1 c2 f2 c3 f3 He Hre Hge Hsz 
    rw [hB.out]
    go_wp2_with fail
    change bodyPost _ _ _ Exit.ret _ (setAll w5 B [.int .i64 (i : Nat), .int .i64 (t : Nat), .int .i64 (k : Nat), str d])
    generalize setAll w5 B [.int .i64 (i : Nat), .int .i64 (t : Nat), .int .i64 (k : Nat), str d] = W5 at He Hre Hge  ⊢
    clear c0 f0 c1 f1 c2 f2 c3 f3
    have c0 := cell_n He.out 0 (v := .int .i64 (i : Nat)) rfl
    have c1 := cell_n He.out 1 (v := .int .i64 (t : Nat)) rfl
    have c2 := cell_n He.out 2 (v := .int .i64 (k : Nat)) rfl
    have c3 := cell_n He.out 3 (v := str d) rfl
    refine bodyPost_ret (by simp [results, Try.results49, go_sem, c0, c1, c2, c3]; rfl) rfl ?_
    exact ⟨rfl, Hre.out, Hge.out⟩

set_option maxHeartbeats 2000000 in
theorem config_rd {b : Nat} {s : List UInt8} {w : World} (h : Rd w b s) :
    Calls Try.prog 59 #[.pointer (some ⟨b, 0, none⟩)] w (GetsConf w.heap.size b w (rdConf s)) := by
  obtain ⟨res, HR⟩ := hide (rdConf s)
  rw [HR.out]
  have hbw : b < w.heap.size := lt_of_block h.1
  obtain ⟨w0, hW⟩ := hide (w.alloc (.cells #[.slice none 0 0, .slice none 0 0, .slice none 0 0] 24))
  have hc : w0.heap[w.heap.size]? = some (.cells #[.slice none 0 0, .slice none 0 0, .slice none 0 0] 24 (0, 0)) := by rw [← hW.out]; exact hp_at _ _ rfl
  have hg : w.grownBy w0 (some b) := by rw [← hW.out]; exact World.grownBy_alloc w _ _
  have hr : Rd w0 b s := h.kept (by rw [← hW.out]; exact World.grownBy_alloc w _ none) (by simp)
  have Hc0 := Lib.hid hc
  have Hg0 := Lib.hid hg
  have Hr0 := Lib.hid hr
  have Hne : Hid (some w.heap.size ≠ some b) := by show _ ≠ _; simp; omega
  have Hs0 : Hid (w.heap.size < w0.heap.size) := lt_of_block hc
  have Hbw := Lib.hid hbw
  have hrd0 : rdConf s = res := HR.out
  unfold rdConf at hrd0
  have HR0 := Lib.hid hrd0
  clear hc hg hr h hbw hrd0
  go_enter Try.func59, Try.ntmps59
  go_wp2_with fail
  rw [hW.out]
  refine (numbers_rd 9 (by decide) Hr0.out).mono ?_
  intro e w1 hp
  cases hx : rdList 9 s with
  | error z =>
    rw [hx] at hp
    obtain rfl : .error z = res := by have hh := HR0.out; rw [hx] at hh; exact hh
    obtain ⟨rfl, hg⟩ := hp
    have Hge := Lib.hid (grown_trans Hg0.out hg)
    clear hg hx
    go_wp2_with fail
    exact ⟨rfl, rfl, Hge.out⟩
  | ok p =>
  obtain ⟨l1, s1⟩ := p
  rw [hx] at hp
  have hrd1 := HR0.out
  rw [hx] at hrd1
  simp only [] at hrd1
  have HR1 := Lib.hid hrd1
  obtain ⟨v1, rfl, ho, hr, hg⟩ := hp
  obtain ⟨ao1, cp1, rfl⟩ := owns_slice ho
  have HI1 : Hid (IntsF (w.heap.size + 1) w1 (.slice ao1 l1.length cp1) (ints l1)) := (IntsF.of_own (by rw [ints_own]; exact ho)).base (by have := Hs0.out; omega)
  clear ho
  have Hr1 := Lib.hid hr
  have Hc1 := Lib.hid ((hg.block _ Hs0.out Hne.out).trans Hc0.out)
  have Hs1 := Lib.hid (Nat.lt_of_lt_of_le Hs0.out hg.size)
  have Hg1 := Lib.hid (grown_trans Hg0.out hg)
  clear hr hg hx hrd1
  go_wp2_with fail
  refine (numbers_rd 9 (by decide) Hr1.out).mono ?_
  intro e w2 hp
  cases hx : rdList 9 s1 with
  | error z =>
    rw [hx] at hp
    obtain rfl : .error z = res := by have hh := HR1.out; rw [hx] at hh; exact hh
    obtain ⟨rfl, hg⟩ := hp
    have Hge := Lib.hid (grown_trans Hg1.out hg)
    clear hg hx
    go_wp2_with fail
    exact ⟨rfl, rfl, Hge.out⟩
  | ok p =>
  obtain ⟨l2, s2⟩ := p
  rw [hx] at hp
  have hrd2 := HR1.out
  rw [hx] at hrd2
  simp only [] at hrd2
  have HR2 := Lib.hid hrd2
  obtain ⟨v2, rfl, ho, hr, hg⟩ := hp
  obtain ⟨ao2, cp2, rfl⟩ := owns_slice ho
  have HI2 : Hid (IntsF (w.heap.size + 1) w2 (.slice ao2 l2.length cp2) (ints l2)) := (IntsF.of_own (by rw [ints_own]; exact ho)).base (by have := Hs1.out; omega)
  clear ho
  have HI1' := Lib.hid (HI1.out.up (Up.ofGrown hg (Nat.lt_succ_of_lt Hbw.out)) (Nat.le_refl _))
  clear HI1
  have HI1 := HI1'
  clear HI1'
  have Hr2 := Lib.hid hr
  have Hc2 := Lib.hid ((hg.block _ Hs1.out Hne.out).trans Hc1.out)
  have Hs2 := Lib.hid (Nat.lt_of_lt_of_le Hs1.out hg.size)
  have Hg2 := Lib.hid (grown_trans Hg1.out hg)
  clear hr hg hx hrd2
  go_wp2_with fail
  refine (numbers_rd 9 (by decide) Hr2.out).mono ?_
  intro e w3 hp
  cases hx : rdList 9 s2 with
  | error z =>
    rw [hx] at hp
    obtain rfl : .error z = res := by have hh := HR2.out; rw [hx] at hh; exact hh
    obtain ⟨rfl, hg⟩ := hp
    have Hge := Lib.hid (grown_trans Hg2.out hg)
    clear hg hx
    go_wp2_with fail
    exact ⟨rfl, rfl, Hge.out⟩
  | ok p =>
  obtain ⟨l3, s3⟩ := p
  rw [hx] at hp
  have hrd3 := HR2.out
  rw [hx] at hrd3
  simp only [] at hrd3
  have HR3 := Lib.hid hrd3
  obtain ⟨v3, rfl, ho, hr, hg⟩ := hp
  obtain ⟨ao3, cp3, rfl⟩ := owns_slice ho
  have HI3 : Hid (IntsF (w.heap.size + 1) w3 (.slice ao3 l3.length cp3) (ints l3)) := (IntsF.of_own (by rw [ints_own]; exact ho)).base (by have := Hs2.out; omega)
  clear ho
  have HI1' := Lib.hid (HI1.out.up (Up.ofGrown hg (Nat.lt_succ_of_lt Hbw.out)) (Nat.le_refl _))
  clear HI1
  have HI1 := HI1'
  clear HI1'
  have HI2' := Lib.hid (HI2.out.up (Up.ofGrown hg (Nat.lt_succ_of_lt Hbw.out)) (Nat.le_refl _))
  clear HI2
  have HI2 := HI2'
  clear HI2'
  have Hr3 := Lib.hid hr
  have Hc3 := Lib.hid ((hg.block _ Hs2.out Hne.out).trans Hc2.out)
  have Hs3 := Lib.hid (Nat.lt_of_lt_of_le Hs2.out hg.size)
  have Hg3 := Lib.hid (grown_trans Hg2.out hg)
  clear hr hg hx hrd3
  obtain ⟨W4, hW4⟩ := hide (w3.alloc (.cells #[.slice ao1 l1.length cp1, .slice ao2 l2.length cp2, .slice ao3 l3.length cp3] 24))
  have hc4 : W4.heap[w.heap.size]? = some (.cells #[.slice none 0 0, .slice none 0 0, .slice none 0 0] 24 (0, 0)) := by rw [← hW4.out]; exact (hp_past _ _ (by have := Hs3.out; omega)).trans Hc3.out
  have hr4 : Rd W4 b s3 := Hr3.out.kept (by rw [← hW4.out]; exact World.grownBy_alloc w3 _ none) (by simp)
  have hg4 : w.grownBy W4 (some b) := by rw [← hW4.out]; exact grown_trans Hg3.out (World.grownBy_alloc w3 _ _)
  have hq4 : W4.heap[w3.heap.size]? = some (.cells #[.slice ao1 l1.length cp1, .slice ao2 l2.length cp2, .slice ao3 l3.length cp3] 24 (0, 0)) := by rw [← hW4.out]; exact hp_at _ _ rfl
  have HJ1 := Lib.hid (HI1.out.up (w' := W4) (by rw [← hW4.out]; exact Up.alloc (w.heap.size + 1) w3 _) (Nat.le_refl _))
  have HJ2 := Lib.hid (HI2.out.up (w' := W4) (by rw [← hW4.out]; exact Up.alloc (w.heap.size + 1) w3 _) (Nat.le_refl _))
  have HJ3 := Lib.hid (HI3.out.up (w' := W4) (by rw [← hW4.out]; exact Up.alloc (w.heap.size + 1) w3 _) (Nat.le_refl _))
  have Hc4 := Lib.hid hc4
  have Hr4 := Lib.hid hr4
  have Hg4 := Lib.hid hg4
  have Hq4 := Lib.hid hq4
  have Hsz : Hid (w.heap.size ≠ w3.heap.size) := by have := Hs3.out; show _ ≠ _; omega
  have q0 := cell_n hq4 0 (v := .slice ao1 l1.length cp1) rfl
  have q1 := cell_n hq4 1 (v := .slice ao2 l2.length cp2) rfl
  have q2 := cell_n hq4 2 (v := .slice ao3 l3.length cp3) rfl
  clear hc4 hr4 hg4 hq4
  have HV := Lib.hid (config_valid _ _ _ ⟨ints l1, ints l2, ints l3⟩ W4 ⟨HJ1.out.ints, HJ2.out.ints, HJ3.out.ints⟩)
  go_upto_region 2 with fail
  rw [hW4.out]
  obtain ⟨Q, hQ⟩ := hide w3.heap.size
  rw [hQ.out] at Hq4 Hsz q0 q1 q2 ⊢
  go_wp2_with fail
  refine HV.out.mono ?_
  rintro e w5 ⟨rfl, hb5⟩
  clear q0 q1 q2
  have hq5 := (hb5.block _ (lt_of_block Hq4.out)).trans Hq4.out
  have hc5 := (hb5.block _ (lt_of_block Hc4.out)).trans Hc4.out
  have hr5 : Rd w5 b s3 := ⟨(hb5.block _ (lt_of_block Hr4.out.1)).trans Hr4.out.1, Hr4.out.2⟩
  have hg5 : w.grownBy w5 (some b) := grown_trans Hg4.out (below_grown hb5 _)
  have HK1 := Lib.hid (HJ1.out.up (S' := w.heap.size + 1) (Up.ofBelow hb5) (Nat.le_refl _))
  have HK2 := Lib.hid (HJ2.out.up (S' := w.heap.size + 1) (Up.ofBelow hb5) (Nat.le_refl _))
  have HK3 := Lib.hid (HJ3.out.up (S' := w.heap.size + 1) (Up.ofBelow hb5) (Nat.le_refl _))
  have Hg5 := Lib.hid hg5
  have hrd9 := HR3.out
  cases hok : validB ⟨ints l1, ints l2, ints l3⟩ with
  | false =>
    obtain rfl : .error 8 = res := by rw [← hrd9, if_neg (by simp [hok])]
    clear hq5 hc5 hr5 hg5 hb5 hrd9 hok
    go_wp2_with (go_at_call 30; refine (fail_any _ _).mono ?_; rintro e w' ⟨rfl, rfl⟩)
    exact ⟨rfl, rfl, Hg5.out⟩
  | true =>
    obtain rfl : .ok ((⟨ints l1, ints l2, ints l3⟩ : Conf), s3) = res := by rw [← hrd9, if_pos hok]
    have he := setAll_at hc5 [.slice ao1 l1.length cp1, .slice ao2 l2.length cp2, .slice ao3 l3.length cp3] rfl
    have hre : Rd (setAll w5 w.heap.size [.slice ao1 l1.length cp1, .slice ao2 l2.length cp2, .slice ao3 l3.length cp3]) b s3 := ⟨setAll_other hr5.1 (fun e => Hne.out (congrArg some e)) _, hr5.2⟩
    have hge := setAll_grown hg5 (Nat.le_refl _) [.slice ao1 l1.length cp1, .slice ao2 l2.length cp2, .slice ao3 l3.length cp3]
    have HL1 := Lib.hid (HK1.out.up (w' := setAll w5 w.heap.size [.slice ao1 l1.length cp1, .slice ao2 l2.length cp2, .slice ao3 l3.length cp3]) (S' := w.heap.size + 1) (Up.setAll _ w5 (Nat.lt_succ_self _) _) (Nat.le_refl _))
    have HL2 := Lib.hid (HK2.out.up (w' := setAll w5 w.heap.size [.slice ao1 l1.length cp1, .slice ao2 l2.length cp2, .slice ao3 l3.length cp3]) (S' := w.heap.size + 1) (Up.setAll _ w5 (Nat.lt_succ_self _) _) (Nat.le_refl _))
    have HL3 := Lib.hid (HK3.out.up (w' := setAll w5 w.heap.size [.slice ao1 l1.length cp1, .slice ao2 l2.length cp2, .slice ao3 l3.length cp3]) (S' := w.heap.size + 1) (Up.setAll _ w5 (Nat.lt_succ_self _) _) (Nat.le_refl _))
    have He := Lib.hid he
    have Hre := Lib.hid hre
    have Hge := Lib.hid hge
    have q0 := cell_n hq5 0 (v := .slice ao1 l1.length cp1) rfl
    have q1 := cell_n hq5 1 (v := .slice ao2 l2.length cp2) rfl
    have q2 := cell_n hq5 2 (v := .slice ao3 l3.length cp3) rfl
    have c0 := cell_n hc5 0 (v := .slice none 0 0) rfl
    have f0 := free_n hc5 0
    have c1 := cell_n hc5 1 (v := .slice none 0 0) rfl
    have f1 := free_n hc5 1
    have c2 := cell_n hc5 2 (v := .slice none 0 0) rfl
    have f2 := free_n hc5 2
    clear he hre hge hq5 hc5 hr5 hg5 hb5 hrd9 hok
    obtain ⟨B, hB⟩ := hide w.heap.size
    rw [hB.out] at c0 f0 c1 f1 c2 f2 He Hre Hge Hsz HL1 HL2 HL3
    rw [hB.out]
    go_wp2_with fail
    change bodyPost _ _ _ Exit.ret _ (setAll w5 B [.slice ao1 l1.length cp1, .slice ao2 l2.length cp2, .slice ao3 l3.length cp3])
    generalize setAll w5 B [.slice ao1 l1.length cp1, .slice ao2 l2.length cp2, .slice ao3 l3.length cp3] = W5 at He Hre Hge HL1 HL2 HL3 ⊢
    clear c0 f0 c1 f1 c2 f2
    have c0 := cell_n He.out 0 (v := .slice ao1 l1.length cp1) rfl
    have c1 := cell_n He.out 1 (v := .slice ao2 l2.length cp2) rfl
    have c2 := cell_n He.out 2 (v := .slice ao3 l3.length cp3) rfl
    refine bodyPost_ret (by simp [results, Try.results59, go_sem, c0, c1, c2]; rfl) rfl ?_
    exact ⟨_, _, _, rfl, ⟨HL1.out.base (by have := hB.out; omega), HL2.out.base (by have := hB.out; omega), HL3.out.base (by have := hB.out; omega)⟩, Hre.out, Hge.out⟩
end Go.Proofs.Ytjlhlmnoomiblaa
