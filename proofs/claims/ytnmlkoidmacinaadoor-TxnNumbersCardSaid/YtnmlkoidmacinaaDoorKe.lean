/-
  The map's state: what a command does.
-/
import Derived.Test.YtnmlkoidmacinaaDoorKd
import Derived.Lib.QuietBelow
import Derived.BigQuiet
import Derived.Deep.CutRange
namespace Go.Proofs.YtnmlkoidmacinaaDoor
open Go.RowKit Wm Mm Dg Kv
set_option linter.unusedVariables false
set_option linter.unusedSimpArgs false

abbrev rowCmd (c : CmdP) : List Value := [.int .i64 c.kind, str c.key, str c.val, .int .i64 c.iff]
abbrev rowText (s : List UInt8) : List Value := [str s]
/-- where things stand once the key's place is known -/
structure DoAt (w W : World) (S B C R P : Nat) (v : Value) (l : List PairP) (c : CmdP) : Prop where
  bb : W.heap[B]? = some (.cells #[v] 80 (0, 0))
  oo : OwnP S W v l
  cc : W.heap[C]? = some (.cells (rowCmd c).toArray 37 (0, 0))
  rr : W.heap[R]? = some (.cells zeroRes.toArray 56 (0, 0))
  pp : W.heap[P]? = some (.cells (rowPair (oldK l c.key)).toArray 25 (0, 0))
  bel : Below w.heap.size w W
  hc : w.heap.size ≤ C
  hr : w.heap.size ≤ R
  hp : w.heap.size ≤ P

/-- where the state stays as it was -/
theorem DoAt.same {w V : World} {S B C R P : Nat} {v : Value} {l : List PairP} {c : CmdP} (h : DoAt w V S B C R P v l c) (hBlt : B < w.heap.size) {kd ver : Int} {val : List UInt8} (hd : doK l c = (l, ⟨kd, val, ver, []⟩)) {e : Ending} {w' : World} (he : e = .returned (vResK kd val ver (.slice none 0 0))) (hw : w' = setAll V R (rowRes kd val ver (.slice none 0 0))) (hg : ∀ g, v.ownBlock = some g → g ≠ R) :
    ∃ v' kv, e = .returned (vResK (doK l c).2.kind (doK l c).2.val (doK l c).2.ver kv) ∧ w'.heap[B]? = some (.cells #[v'] 80 (0, 0)) ∧ OwnP S w' v' (doK l c).1 ∧ w'.ownsRow w.heap.size 9 1 kv (doK l c).2.keys.length ((doK l c).2.keys.flatMap rowText) ∧ Chg (Zone B v) w w' ∧ (∀ g, v'.ownBlock = some g → v.ownBlock = some g ∨ w.heap.size ≤ g) := by
  subst hw
  rw [hd]
  have hb : Below w.heap.size w (setAll V R (rowRes kd val ver (.slice none 0 0))) := setAll_below h.bel h.hr _
  have hc := setFrom_chg R (rowRes kd val ver (.slice none 0 0)) V 0
  refine ⟨v, .slice none 0 0, he, setAll_other h.bb (fun e => by have := h.hr; omega) _, own_chg h.oo hc (fun g h1 h2 => hg g h1 h2), World.ownsRow_nil _ _ _ _, Chg.fresh _ hb, fun g h1 => Or.inl h1⟩

set_option maxHeartbeats 4000000 in
set_option maxRecDepth 100000 in
theorem do_get (S B : Nat) (c : CmdP) (v : Value) (l : List PairP) (w : World) (hB : w.heap[B]? = some (.cells #[v] 80 (0, 0))) (ho : OwnP S w v l) (hk : OkPs l) (hS : S ≤ w.heap.size) (hkind : c.kind = 2) :
    Calls Tryd.prog 39 #[.pointer (some ⟨B, 0, none⟩), vCmd c.kind c.key c.val c.iff] w fun e w' => ∃ v' kv, e = .returned (vResK (doK l c).2.kind (doK l c).2.val (doK l c).2.ver kv) ∧ w'.heap[B]? = some (.cells #[v'] 80 (0, 0)) ∧ OwnP S w' v' (doK l c).1 ∧ w'.ownsRow w.heap.size 9 1 kv (doK l c).2.keys.length ((doK l c).2.keys.flatMap rowText) ∧ Chg (Zone B v) w w' ∧ (∀ g, v'.ownBlock = some g → v.ownBlock = some g ∨ w.heap.size ≤ g) := by
  obtain ⟨post, HP⟩ := hide (fun (e : Ending) (w' : World) => ∃ v' kv, e = .returned (vResK (doK l c).2.kind (doK l c).2.val (doK l c).2.ver kv) ∧ w'.heap[B]? = some (.cells #[v'] 80 (0, 0)) ∧ OwnP S w' v' (doK l c).1 ∧ w'.ownsRow w.heap.size 9 1 kv (doK l c).2.keys.length ((doK l c).2.keys.flatMap rowText) ∧ Chg (Zone B v) w w' ∧ (∀ g, v'.ownBlock = some g → v.ownBlock = some g ∨ w.heap.size ≤ g))
  rw [HP.out]
  obtain ⟨ao, cap, rfl⟩ := owns_slice ho
  obtain ⟨C, hC⟩ := hide w.heap.size
  obtain ⟨W, hW⟩ := hide ((w.alloc (.cells (rowCmd c).toArray 37)).alloc (.cells zeroRes.toArray 56))
  obtain ⟨R, hR⟩ := hide (w.heap.size + 1)
  have HbW : Hid (Below w.heap.size w W) := by show Below _ _ _; rw [← hW.out]; exact ((Below.refl _ _).alloc (Nat.le_refl _) _).alloc (by simp) _
  have HCW : Hid (W.heap[C]? = some (.cells (rowCmd c).toArray 37 (0, 0))) := by show _ = _; rw [← hW.out, ← hC.out]; exact (hp_past _ _ (by simp)).trans (hp_at _ _ rfl)
  have HRW : Hid (W.heap[R]? = some (.cells zeroRes.toArray 56 (0, 0))) := by show _ = _; rw [← hW.out, ← hR.out]; exact hp_at _ _ (by simp)
  have HBW : Hid (W.heap[B]? = some (.cells #[.slice ao l.length cap] 80 (0, 0))) := by show _ = _; rw [HbW.out.block B (lt_of_block hB)]; exact hB
  have HoW : Hid (OwnP S W (.slice ao l.length cap) l) := own_below ho HbW.out
  have KF : Hid (∀ (dd : Nat) (os : Array Obj), Calls Tryd.prog 52 #[.slice ao l.length cap, str c.key] (Sort.grow (redrawn W dd) os) fun e w'' => e = .returned (.tuple #[.int .i64 (place l c.key : Int), .bool (isK l c.key)]) ∧ Below (Sort.grow (redrawn W dd) os).heap.size (Sort.grow (redrawn W dd) os) w'') := fun dd os => find_law c.key _ l _ _ (OwnP.prs (own_below HoW.out (below_regrown W dd os))) hk
  obtain ⟨k, hkq⟩ := hide (place l c.key)
  obtain ⟨q, hq⟩ := hide (isK l c.key)
  obtain ⟨n, hn⟩ := hide l.length
  have HP0 := HP
  rw [hn.out] at HP0
  have HS := Lib.hid hS
  have Hk := Lib.hid hk
  have Hlt := Lib.hid (lt_of_block hB)
  have Hkind := Lib.hid hkind
  clear hkind hB ho hk hS
  rw [hn.out] at HBW KF
  rw [hkq.out, hq.out] at KF
  have C0 := fun (dd : Nat) (os : Array Obj) => cell_regrown (cell_n HBW.out 0 (v := .slice ao n cap) rfl) dd os
  have C1 := fun (dd : Nat) (os : Array Obj) => cell_regrown (cell_n HCW.out 1 (v := str c.key) rfl) dd os
  go_enter Tryd.func39, Tryd.ntmps39
  go_upto_region 1 with fail
  rw [hW.out]
  try rw [hR.out]
  try rw [hC.out]
  go_cut [5, 6] from 9 to 18 (fun s5 s6 wx => s5 = .int .i64 (k : Int) ∧ s6 = .bool q ∧ Hid (Below W.heap.size W wx))
  case first =>
    refine wp_region_quiet_below (by kernel_rfl) (by kernel_rfl) ?_
    repeat (go_big_quiet_step (first | (go_at_call 52; with_reducible refine Calls.regrown_of (KF.out _ _))))
    refine wpQuiet_nil ?_
    intro _ hw'
    obtain ⟨⟨dq, osq⟩, hw''⟩ := hw'
    subst hw''
    go_wp2
    go_meet
    exact ⟨rfl, rfl, below_regrown W dq osq⟩
  case rest =>
    obtain ⟨U, hU⟩ : ∃ U, U = wc := ⟨_, rfl⟩
    subst hU
    obtain ⟨rfl, rfl, hbU⟩ := hcut
    clear C0 C1
    go_upto_region 3 with fail
    obtain ⟨W2, hW2⟩ := hide (U.alloc (.cells #[.string ⟨#[]⟩, .string ⟨#[]⟩, .int .i64 0] 25))
    obtain ⟨P, hP⟩ := hide U.heap.size
    have HbW2 : Hid (Below W.heap.size W W2) := by show Below _ _ _; rw [← hW2.out]; exact hbU.out.trans (((Below.refl _ _).alloc (Nat.le_refl _) _).mono hbU.out.size)
    have HB2 : Hid (W2.heap[B]? = some (.cells #[.slice ao n cap] 80 (0, 0))) := (HbW2.out.block _ (lt_of_block HBW.out)).trans HBW.out
    have HO2 : Hid (W2.ownsRow S 25 3 (.slice ao n cap) n (l.flatMap rowPair)) := by show World.ownsRow _ _ _ _ _ _ _; have h := own_below HoW.out HbW2.out; rw [hn.out] at h; exact h
    have HC2 : Hid (W2.heap[C]? = some (.cells (rowCmd c).toArray 37 (0, 0))) := (HbW2.out.block _ (lt_of_block HCW.out)).trans HCW.out
    have HR2 : Hid (W2.heap[R]? = some (.cells zeroRes.toArray 56 (0, 0))) := (HbW2.out.block _ (lt_of_block HRW.out)).trans HRW.out
    have HP2 : Hid (W2.heap[P]? = some (.cells (rowPair zeroP).toArray 25 (0, 0))) := by show _ = _; rw [← hW2.out, ← hP.out]; exact hp_at _ _ rfl
    have HPu : Hid (W.heap.size ≤ P) := by show _ ≤ _; rw [← hP.out]; exact hbU.out.size
    have HB0 : Hid (Below w.heap.size w W2) := HbW.out.trans (HbW2.out.mono HbW.out.size)
    have HCl : Hid (w.heap.size ≤ C) := by show _ ≤ _; rw [hC.out]; exact Nat.le_refl _
    have HRl : Hid (w.heap.size ≤ R) := by show _ ≤ _; rw [← hR.out]; omega
    have HPl : Hid (w.heap.size ≤ P) := Nat.le_trans HbW.out.size HPu.out
    rw [hW2.out, hP.out]
    go_upto_if 19 with fail
    go_cut [] from 20 to 26 (fun wx => Hid (DoAt w wx S B C R P (.slice ao n cap) l c))
    case first =>
      cases q
      · have hold : oldK l c.key = zeroP := oldK_no hq.out
        have HD : Hid (DoAt w W2 S B C R P (.slice ao n cap) l c) := ⟨HB2.out, by show World.ownsRow _ _ _ _ _ _ _; rw [hn.out]; exact HO2.out, HC2.out, HR2.out, by rw [hold]; exact HP2.out, HB0.out, HCl.out, HRl.out, HPl.out⟩
        clear hold
        go_wp2_with fail
        go_meet
        exact HD
      · obtain ⟨hkl, hkey⟩ := isK_at hq.out
        have hold : oldK l c.key = l[place l c.key] := by unfold oldK; rw [if_pos hq.out, List.getD_eq_getElem?_getD, List.getElem?_eq_getElem hkl]; rfl
        simp only [hkq.out] at hkl hold hkey
        have hkn : k < n := by rw [← hn.out]; exact hkl
        obtain ⟨g, rfl⟩ : ∃ g, ao = some ⟨g, 0, none⟩ := by
          rcases HO2.out.2 with ⟨hv, h0⟩ | ⟨g, c, cur, hv, _⟩
          · omega
          · injection hv with e1; exact ⟨g, e1⟩
        obtain ⟨p0, p1, p2⟩ := own_pair HO2.out hkl
        obtain ⟨y, hy⟩ := hide l[k]
        rw [hy.out] at p0 p1 p2 hold
        have c0 := cell_n HB2.out 0 (v := .slice (some ⟨g, 0, none⟩) n cap) rfl
        have z0 := cell_n HP2.out 0 (v := .string ⟨#[]⟩) rfl
        have z1 := cell_n HP2.out 1 (v := .string ⟨#[]⟩) rfl
        have z2 := cell_n HP2.out 2 (v := .int .i64 0) rfl
        have f0 := free_n HP2.out 0
        have f1 := free_n HP2.out 1
        have f2 := free_n HP2.out 2
        have hki : (k : Int) < (n : Int) := by omega
        have HD : Hid (DoAt w (setAll W2 P (rowPair y)) S B C R P (.slice (some ⟨g, 0, none⟩) n cap) l c) := by
          have hlt1 := lt_of_block HBW.out
          have hpb : P ≠ B := fun e => by have := HPu.out; omega
          have hpc : P ≠ C := fun e => by have := HPu.out; have := lt_of_block HCW.out; omega
          have hpr : P ≠ R := fun e => by have := HPu.out; have := lt_of_block HRW.out; omega
          refine ⟨setAll_other HB2.out hpb _, ?_, setAll_other HC2.out hpc _, setAll_other HR2.out hpr _, by rw [hold]; exact setAll_at (xs := rowPair zeroP) HP2.out _ rfl, setAll_below HB0.out HPl.out _, HCl.out, HRl.out, HPl.out⟩
          show World.ownsRow _ _ _ _ _ _ _
          rw [hn.out]
          refine own_chg HO2.out (setFrom_chg P _ W2 0) (fun j hj e => ?_)
          have e1 : g = j := by simpa [Value.ownBlock] using hj
          have e2 : j = P := e
          have := (HoW.out.lt g (by simp [Value.ownBlock])).2
          have := HPu.out
          omega
        clear hold hkey
        go_wp2_with fail
        go_meet
        exact HD
    case rest =>
      obtain ⟨V, hV⟩ : ∃ V, V = wc := ⟨_, rfl⟩
      subst hV
      have HD := hcut
      clear hcut
      have hgR : ∀ g, (Value.slice ao n cap).ownBlock = some g → g ≠ R := fun g hg e => own_blk_ne (HD.out.oo) HD.out.rr (by decide) (by rw [← e]; exact hg)
      obtain ⟨r0, r1, r2, r3⟩ := four_cellsK HD.out.rr
      obtain ⟨f0, f1, f2, f3⟩ := four_freeK HD.out.rr
      have k0 := cell_n HD.out.cc 0 (v := .int .i64 c.kind) rfl
      have t1 : (c.kind == 1) = false := by rw [Hkind.out]; rfl
      have t5 : (c.kind == 5) = false := by rw [Hkind.out]; rfl
      have t4 : (c.kind == 4) = false := by rw [Hkind.out]; rfl
      have t6 : (c.kind == 6) = false := by rw [Hkind.out]; rfl
      have t3 : (c.kind == 3) = false := by rw [Hkind.out]; rfl
      have HgR := Lib.hid hgR
      clear hgR
      cases q
      · have hd : doK l c = (l, ⟨2, [], 0, []⟩) := by
          unfold doK
          rw [if_neg (by rw [Hkind.out]; decide), if_neg (by rw [Hkind.out]; decide), if_neg (by rw [Hkind.out]; decide), if_neg (by rw [Hkind.out]; decide), if_pos hq.out]
        have HE : Hid (post (.returned (vResK 2 [] 0 (.slice none 0 0))) (setAll V R (rowRes 2 [] 0 (.slice none 0 0)))) := by show post _ _; rw [← HP0.out]; exact HD.out.same Hlt.out hd rfl rfl HgR.out
        have HER : Hid ((setAll V R (rowRes 2 [] 0 (.slice none 0 0))).heap[R]? = some (.cells (rowRes 2 [] 0 (.slice none 0 0)).toArray 56 (0, 0))) := setAll_at (xs := zeroRes) HD.out.rr _ rfl
        clear hd
        go_wp2_with fail
        change bodyPost _ _ _ Exit.ret _ (setAll V R (rowRes 2 [] 0 (.slice none 0 0)))
        generalize setAll V R (rowRes 2 [] 0 (.slice none 0 0)) = W9 at HE HER ⊢
        clear r0 r1 r2 r3 f0 f1 f2 f3
        obtain ⟨r0, r1, r2, r3⟩ := four_cellsK HER.out
        refine bodyPost_ret (by simp [results, Tryd.results39, go_sem, r0, r1, r2, r3]; rfl) rfl ?_
        exact HE.out

      · have p1 := cell_n HD.out.pp 1 (v := str (oldK l c.key).val) rfl
        have p2 := cell_n HD.out.pp 2 (v := .int .i64 (oldK l c.key).ver) rfl
        have hd : doK l c = (l, ⟨1, (oldK l c.key).val, (oldK l c.key).ver, []⟩) := by
          unfold doK
          rw [if_neg (by rw [Hkind.out]; decide), if_neg (by rw [Hkind.out]; decide), if_neg (by rw [Hkind.out]; decide), if_neg (by rw [Hkind.out]; decide), if_neg (by rw [hq.out]; decide), if_neg (by rw [Hkind.out]; decide)]
        obtain ⟨yv, hyv⟩ := hide (oldK l c.key).val
        obtain ⟨yr, hyr⟩ := hide (oldK l c.key).ver
        rw [hyv.out] at hd p1
        rw [hyr.out] at hd p2
        have HE : Hid (post (.returned (vResK 1 yv yr (.slice none 0 0))) (setAll V R (rowRes 1 yv yr (.slice none 0 0)))) := by show post _ _; rw [← HP0.out]; exact HD.out.same Hlt.out hd rfl rfl HgR.out
        have HER : Hid ((setAll V R (rowRes 1 yv yr (.slice none 0 0))).heap[R]? = some (.cells (rowRes 1 yv yr (.slice none 0 0)).toArray 56 (0, 0))) := setAll_at (xs := zeroRes) HD.out.rr _ rfl
        clear hd
        go_wp2_with fail
        change bodyPost _ _ _ Exit.ret _ (setAll V R (rowRes 1 yv yr (.slice none 0 0)))
        generalize setAll V R (rowRes 1 yv yr (.slice none 0 0)) = W9 at HE HER ⊢
        clear r0 r1 r2 r3 f0 f1 f2 f3
        obtain ⟨r0, r1, r2, r3⟩ := four_cellsK HER.out
        refine bodyPost_ret (by simp [results, Tryd.results39, go_sem, r0, r1, r2, r3]; rfl) rfl ?_
        exact HE.out

end Go.Proofs.YtnmlkoidmacinaaDoor
