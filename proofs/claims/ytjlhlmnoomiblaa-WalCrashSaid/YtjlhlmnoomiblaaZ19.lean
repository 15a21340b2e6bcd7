/-
  Reading snapshots, the panicking reader's way.
-/
import Derived.Test.YtjlhlmnoomiblaaZ17
import Derived.Test.YtjlhlmnoomiblaaZ18
namespace Go.Proofs.Ytjlhlmnoomiblaa
open Go.RowKit Wm Mm
set_option linter.unusedVariables false

structure Snap where
  index : Nat
  term : Nat
  conf : Conf
  data : List UInt8
def rdSnap (s : List UInt8) : Res Snap :=
  match rdNum s with
  | .error z => .error z
  | .ok (i, s1) => match rdNum s1 with
    | .error z => .error z
    | .ok (t, s2) => match rdConf s2 with
      | .error z => .error z
      | .ok (c, s3) => match rdText 8192 s3 with
        | .error z => .error z
        | .ok (d, s4) => if isSnap i t c d = true then .ok (⟨i, t, c, d⟩, s4) else .error 6
/-- how the reading of a snapshot ends -/
def GetsSnap (S b : Nat) (w : World) (res : Res Snap) (e : Ending) (w' : World) : Prop :=
  match res with
  | .ok (q, t) => ∃ x y z, e = .returned (vSnap q.index q.term x y z q.data) ∧ Config3F S w' x y z q.conf ∧ Rd w' b t ∧ w.grownBy w' (some b)
  | .error z => e = stopped z ∧ w.grownBy w' (some b)

set_option maxHeartbeats 2000000 in
theorem snapshot_rd {b : Nat} {s : List UInt8} {w : World} (h : Rd w b s) :
    Calls Try.prog 51 #[.pointer (some ⟨b, 0, none⟩)] w (GetsSnap w.heap.size b w (rdSnap s)) := by
  obtain ⟨res, HR⟩ := hide (rdSnap s)
  rw [HR.out]
  have hbw : b < w.heap.size := lt_of_block h.1
  obtain ⟨w0, hW⟩ := hide (w.alloc (.cells #[.int .i64 0, .int .i64 0, .slice none 0 0, .slice none 0 0, .slice none 0 0, str []] 31))
  have hc : w0.heap[w.heap.size]? = some (.cells #[.int .i64 0, .int .i64 0, .slice none 0 0, .slice none 0 0, .slice none 0 0, str []] 31 (0, 0)) := by rw [← hW.out]; exact hp_at _ _ rfl
  have hg : w.grownBy w0 (some b) := by rw [← hW.out]; exact World.grownBy_alloc w _ _
  have hr : Rd w0 b s := h.kept (by rw [← hW.out]; exact World.grownBy_alloc w _ none) (by simp)
  have Hc0 := Lib.hid hc
  have Hg0 := Lib.hid hg
  have Hr0 := Lib.hid hr
  have Hne : Hid (some w.heap.size ≠ some b) := by show _ ≠ _; simp; omega
  have Hs0 : Hid (w.heap.size < w0.heap.size) := lt_of_block hc
  have Hbw := Lib.hid hbw
  have hrd0 : rdSnap s = res := HR.out
  unfold rdSnap at hrd0
  have HR0 := Lib.hid hrd0
  clear hc hg hr h hbw hrd0
  go_enter Try.func51, Try.ntmps51
  go_wp2_with fail
  rw [hW.out]
  refine (number_rd Hr0.out).mono ?_
  intro e w1 hp
  cases hx : rdNum s with
  | error z =>
    rw [hx] at hp
    obtain rfl : .error z = res := by have hh := HR0.out; rw [hx] at hh; exact hh
    obtain ⟨rfl, hg⟩ := hp
    have Hge := Lib.hid (grown_trans Hg0.out hg)
    clear hg hx
    go_wp2_with fail
    exact ⟨rfl, rfl, Hge.out⟩
  | ok p =>
  obtain ⟨i, s1⟩ := p
  rw [hx] at hp
  have hrd1 := HR0.out
  rw [hx] at hrd1
  simp only [] at hrd1
  have HR1 := Lib.hid hrd1
  obtain ⟨rfl, hr, hg⟩ := hp
  have Hr1 := Lib.hid hr
  have Hc1 := Lib.hid ((hg.block _ Hs0.out Hne.out).trans Hc0.out)
  have Hs1 := Lib.hid (Nat.lt_of_lt_of_le Hs0.out hg.size)
  have Hg1 := Lib.hid (grown_trans Hg0.out hg)
  clear hr hg hx hrd1
  go_wp2_with fail
  refine (number_rd Hr1.out).mono ?_
  intro e w2 hp
  cases hx : rdNum s1 with
  | error z =>
    rw [hx] at hp
    obtain rfl : .error z = res := by have hh := HR1.out; rw [hx] at hh; exact hh
    obtain ⟨rfl, hg⟩ := hp
    have Hge := Lib.hid (grown_trans Hg1.out hg)
    clear hg hx
    go_wp2_with fail
    exact ⟨rfl, rfl, Hge.out⟩
  | ok p =>
  obtain ⟨t, s2⟩ := p
  rw [hx] at hp
  have hrd2 := HR1.out
  rw [hx] at hrd2
  simp only [] at hrd2
  have HR2 := Lib.hid hrd2
  obtain ⟨rfl, hr, hg⟩ := hp
  have Hr2 := Lib.hid hr
  have Hc2 := Lib.hid ((hg.block _ Hs1.out Hne.out).trans Hc1.out)
  have Hs2 := Lib.hid (Nat.lt_of_lt_of_le Hs1.out hg.size)
  have Hg2 := Lib.hid (grown_trans Hg1.out hg)
  clear hr hg hx hrd2
  go_wp2_with fail
  refine (config_rd Hr2.out).mono ?_
  intro e w3 hp
  cases hx : rdConf s2 with
  | error z =>
    rw [hx] at hp
    obtain rfl : .error z = res := by have hh := HR2.out; rw [hx] at hh; exact hh
    obtain ⟨rfl, hg⟩ := hp
    have Hge := Lib.hid (grown_trans Hg2.out hg)
    clear hg hx
    go_wp2_with fail
    exact ⟨rfl, rfl, Hge.out⟩
  | ok p =>
  obtain ⟨c, s3⟩ := p
  rw [hx] at hp
  have hrd3 := HR2.out
  rw [hx] at hrd3
  simp only [] at hrd3
  have HR3 := Lib.hid hrd3
  obtain ⟨x3, y3, z3, rfl, hcf, hr, hg⟩ := hp
  obtain ⟨aox3, cpx3, rfl⟩ := hcf.v.len
  obtain ⟨aoy3, cpy3, rfl⟩ := hcf.n.len
  obtain ⟨aoz3, cpz3, rfl⟩ := hcf.l.len
  have HI3 : Hid (Config3F (w.heap.size + 1) w3 (.slice aox3 c.v.length cpx3) (.slice aoy3 c.n.length cpy3) (.slice aoz3 c.l.length cpz3) c) := hcf.base (by have := Hs2.out; omega)
  clear hcf
  have Hr3 := Lib.hid hr
  have Hc3 := Lib.hid ((hg.block _ Hs2.out Hne.out).trans Hc2.out)
  have Hs3 := Lib.hid (Nat.lt_of_lt_of_le Hs2.out hg.size)
  have Hg3 := Lib.hid (grown_trans Hg2.out hg)
  clear hr hg hx hrd3
  go_wp2_with fail
  refine (text_rd 8192 (by decide) Hr3.out).mono ?_
  intro e w4 hp
  cases hx : rdText 8192 s3 with
  | error z =>
    rw [hx] at hp
    obtain rfl : .error z = res := by have hh := HR3.out; rw [hx] at hh; exact hh
    obtain ⟨rfl, hg⟩ := hp
    have Hge := Lib.hid (grown_trans Hg3.out hg)
    clear hg hx
    go_wp2_with fail
    exact ⟨rfl, rfl, Hge.out⟩
  | ok p =>
  obtain ⟨d, s4⟩ := p
  rw [hx] at hp
  have hrd4 := HR3.out
  rw [hx] at hrd4
  simp only [] at hrd4
  have HR4 := Lib.hid hrd4
  obtain ⟨rfl, hr, hg⟩ := hp
  have HI3' := Lib.hid (HI3.out.up (Up.ofGrown hg (Nat.lt_succ_of_lt Hbw.out)) (Nat.le_refl _))
  clear HI3
  have HI3 := HI3'
  clear HI3'
  have Hr4 := Lib.hid hr
  have Hc4 := Lib.hid ((hg.block _ Hs3.out Hne.out).trans Hc3.out)
  have Hs4 := Lib.hid (Nat.lt_of_lt_of_le Hs3.out hg.size)
  have Hg4 := Lib.hid (grown_trans Hg3.out hg)
  clear hr hg hx hrd4
  obtain ⟨W4, hW4⟩ := hide (w4.alloc (.cells #[.int .i64 (i : Nat), .int .i64 (t : Nat), .slice aox3 c.v.length cpx3, .slice aoy3 c.n.length cpy3, .slice aoz3 c.l.length cpz3, str d] 31))
  have hc4 : W4.heap[w.heap.size]? = some (.cells #[.int .i64 0, .int .i64 0, .slice none 0 0, .slice none 0 0, .slice none 0 0, str []] 31 (0, 0)) := by rw [← hW4.out]; exact (hp_past _ _ (by have := Hs4.out; omega)).trans Hc4.out
  have hr4 : Rd W4 b s4 := Hr4.out.kept (by rw [← hW4.out]; exact World.grownBy_alloc w4 _ none) (by simp)
  have hg4 : w.grownBy W4 (some b) := by rw [← hW4.out]; exact grown_trans Hg4.out (World.grownBy_alloc w4 _ _)
  have hq4 : W4.heap[w4.heap.size]? = some (.cells #[.int .i64 (i : Nat), .int .i64 (t : Nat), .slice aox3 c.v.length cpx3, .slice aoy3 c.n.length cpy3, .slice aoz3 c.l.length cpz3, str d] 31 (0, 0)) := by rw [← hW4.out]; exact hp_at _ _ rfl
  have HJ3 := Lib.hid (HI3.out.up (w' := W4) (by rw [← hW4.out]; exact Up.alloc (w.heap.size + 1) w4 _) (Nat.le_refl _))
  have Hc4 := Lib.hid hc4
  have Hr4 := Lib.hid hr4
  have Hg4 := Lib.hid hg4
  have Hq4 := Lib.hid hq4
  have Hsz : Hid (w.heap.size ≠ w4.heap.size) := by have := Hs4.out; show _ ≠ _; omega
  have q0 := cell_n hq4 0 (v := .int .i64 (i : Nat)) rfl
  have q1 := cell_n hq4 1 (v := .int .i64 (t : Nat)) rfl
  have q2 := cell_n hq4 2 (v := .slice aox3 c.v.length cpx3) rfl
  have q3 := cell_n hq4 3 (v := .slice aoy3 c.n.length cpy3) rfl
  have q4 := cell_n hq4 4 (v := .slice aoz3 c.l.length cpz3) rfl
  have q5 := cell_n hq4 5 (v := str d) rfl
  clear hc4 hr4 hg4 hq4
  have HV := Lib.hid (wire_isSnapshot i t _ _ _ c d W4 HJ3.out.conf)
  go_upto_region 2 with fail
  rw [hW4.out]
  obtain ⟨Q, hQ⟩ := hide w4.heap.size
  rw [hQ.out] at Hq4 Hsz q0 q1 q2 q3 q4 q5 ⊢
  go_wp2_with fail
  refine HV.out.mono ?_
  rintro e w5 ⟨rfl, hb5⟩
  clear q0 q1 q2 q3 q4 q5
  have hq5 := (hb5.block _ (lt_of_block Hq4.out)).trans Hq4.out
  have hc5 := (hb5.block _ (lt_of_block Hc4.out)).trans Hc4.out
  have hr5 : Rd w5 b s4 := ⟨(hb5.block _ (lt_of_block Hr4.out.1)).trans Hr4.out.1, Hr4.out.2⟩
  have hg5 : w.grownBy w5 (some b) := grown_trans Hg4.out (below_grown hb5 _)
  have HK3 := Lib.hid (HJ3.out.up (S' := w.heap.size + 1) (Up.ofBelow hb5) (Nat.le_refl _))
  have Hg5 := Lib.hid hg5
  have hrd9 := HR4.out
  cases hok : isSnap i t c d with
  | false =>
    obtain rfl : .error 6 = res := by rw [← hrd9, if_neg (by simp [hok])]
    clear hq5 hc5 hr5 hg5 hb5 hrd9 hok
    go_wp2_with (go_at_call 30; refine (fail_any _ _).mono ?_; rintro e w' ⟨rfl, rfl⟩)
    exact ⟨rfl, rfl, Hg5.out⟩
  | true =>
    obtain rfl : .ok (⟨i, t, c, d⟩, s4) = res := by rw [← hrd9, if_pos hok]
    have he := setAll_at hc5 [.int .i64 (i : Nat), .int .i64 (t : Nat), .slice aox3 c.v.length cpx3, .slice aoy3 c.n.length cpy3, .slice aoz3 c.l.length cpz3, str d] rfl
    have hre : Rd (setAll w5 w.heap.size [.int .i64 (i : Nat), .int .i64 (t : Nat), .slice aox3 c.v.length cpx3, .slice aoy3 c.n.length cpy3, .slice aoz3 c.l.length cpz3, str d]) b s4 := ⟨setAll_other hr5.1 (fun e => Hne.out (congrArg some e)) _, hr5.2⟩
    have hge := setAll_grown hg5 (Nat.le_refl _) [.int .i64 (i : Nat), .int .i64 (t : Nat), .slice aox3 c.v.length cpx3, .slice aoy3 c.n.length cpy3, .slice aoz3 c.l.length cpz3, str d]
    have HL3 := Lib.hid (HK3.out.up (w' := setAll w5 w.heap.size [.int .i64 (i : Nat), .int .i64 (t : Nat), .slice aox3 c.v.length cpx3, .slice aoy3 c.n.length cpy3, .slice aoz3 c.l.length cpz3, str d]) (S' := w.heap.size + 1) (Up.setAll _ w5 (Nat.lt_succ_self _) _) (Nat.le_refl _))
    have He := Lib.hid he
    have Hre := Lib.hid hre
    have Hge := Lib.hid hge
    have q0 := cell_n hq5 0 (v := .int .i64 (i : Nat)) rfl
    have q1 := cell_n hq5 1 (v := .int .i64 (t : Nat)) rfl
    have q2 := cell_n hq5 2 (v := .slice aox3 c.v.length cpx3) rfl
    have q3 := cell_n hq5 3 (v := .slice aoy3 c.n.length cpy3) rfl
    have q4 := cell_n hq5 4 (v := .slice aoz3 c.l.length cpz3) rfl
    have q5 := cell_n hq5 5 (v := str d) rfl
    have c0 := cell_n hc5 0 (v := .int .i64 0) rfl
    have f0 := free_n hc5 0
    have c1 := cell_n hc5 1 (v := .int .i64 0) rfl
    have f1 := free_n hc5 1
    have c2 := cell_n hc5 2 (v := .slice none 0 0) rfl
    have f2 := free_n hc5 2
    have c3 := cell_n hc5 3 (v := .slice none 0 0) rfl
    have f3 := free_n hc5 3
    have c4 := cell_n hc5 4 (v := .slice none 0 0) rfl
    have f4 := free_n hc5 4
    have c5 := cell_n hc5 5 (v := str []) rfl
    have f5 := free_n hc5 5
    clear he hre hge hq5 hc5 hr5 hg5 hb5 hrd9 hok
    obtain ⟨B, hB⟩ := hide w.heap.size
    rw [hB.out] at c0 f0 c1 f1 c2 f2 c3 f3 c4 f4 c5 f5 He Hre Hge Hsz HL3
    rw [hB.out]
    go_wp2_with fail
    change bodyPost _ _ _ Exit.ret _ (setAll w5 B [.int .i64 (i : Nat), .int .i64 (t : Nat), .slice aox3 c.v.length cpx3, .slice aoy3 c.n.length cpy3, .slice aoz3 c.l.length cpz3, str d])
    generalize setAll w5 B [.int .i64 (i : Nat), .int .i64 (t : Nat), .slice aox3 c.v.length cpx3, .slice aoy3 c.n.length cpy3, .slice aoz3 c.l.length cpz3, str d] = W5 at He Hre Hge HL3 ⊢
    clear c0 f0 c1 f1 c2 f2 c3 f3 c4 f4 c5 f5
    have c0 := cell_n He.out 0 (v := .int .i64 (i : Nat)) rfl
    have c1 := cell_n He.out 1 (v := .int .i64 (t : Nat)) rfl
    have c2 := cell_n He.out 2 (v := .slice aox3 c.v.length cpx3) rfl
    have c3 := cell_n He.out 3 (v := .slice aoy3 c.n.length cpy3) rfl
    have c4 := cell_n He.out 4 (v := .slice aoz3 c.l.length cpz3) rfl
    have c5 := cell_n He.out 5 (v := str d) rfl
    refine bodyPost_ret (by simp [results, Try.results51, go_sem, c0, c1, c2, c3, c4, c5]; rfl) rfl ?_
    exact ⟨_, _, _, rfl, HL3.out.base (by have := hB.out; omega), Hre.out, Hge.out⟩
end Go.Proofs.Ytjlhlmnoomiblaa
