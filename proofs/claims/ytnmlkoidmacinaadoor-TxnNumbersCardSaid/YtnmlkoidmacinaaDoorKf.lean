/-
  The map's state: what Put, Append and Swap do.
-/
import Derived.Test.YtnmlkoidmacinaaDoorKe
namespace Go.Proofs.YtnmlkoidmacinaaDoor
open Go.RowKit Wm Mm Dg Kv
set_option linter.unusedVariables false
set_option linter.unusedSimpArgs false

/-- where a key's value was put -/
theorem DoAt.put {w V V2 : World} {S B C R P : Nat} {v v' : Value} {l : List PairP} {c : CmdP} (h : DoAt w V S B C R P v l c) (hBlt : B < w.heap.size) {val : List UInt8} (hd : doK l c = putK l c.key val)
    (hb : V2.heap[B]? = some (.cells #[v'] 80 (0, 0))) (ho : OwnP S V2 v' (putK l c.key val).1) (hc : Chg (Zone B v) V V2) (hg : ∀ g, v'.ownBlock = some g → v.ownBlock = some g ∨ V.heap.size ≤ g) (hR : V2.heap[R]? = some (.cells zeroRes.toArray 56 (0, 0)))
    {e : Ending} {w' : World} (he : e = .returned (vResK (putK l c.key val).2.kind [] (putK l c.key val).2.ver (.slice none 0 0))) (hw : w' = setAll V2 R (rowRes (putK l c.key val).2.kind [] (putK l c.key val).2.ver (.slice none 0 0))) :
    ∃ v' kv, e = .returned (vResK (doK l c).2.kind (doK l c).2.val (doK l c).2.ver kv) ∧ w'.heap[B]? = some (.cells #[v'] 80 (0, 0)) ∧ OwnP S w' v' (doK l c).1 ∧ w'.ownsRow w.heap.size 9 1 kv (doK l c).2.keys.length ((doK l c).2.keys.flatMap rowText) ∧ Chg (Zone B v) w w' ∧ (∀ g, v'.ownBlock = some g → v.ownBlock = some g ∨ w.heap.size ≤ g) := by
  subst hw
  rw [hd]
  obtain ⟨e1, e2⟩ := putK_val l c.key val
  rw [e1, e2]
  have hcR := setFrom_chg R (rowRes (putK l c.key val).2.kind [] (putK l c.key val).2.ver (.slice none 0 0)) V2 0
  have hs := h.bel.size
  refine ⟨v', .slice none 0 0, he, setAll_other hb (fun e => by have := h.hr; omega) _, own_chg ho hcR (fun g h1 h2 => ?_), World.ownsRow_nil _ _ _ _, ?_, fun g h1 => ?_⟩
  · have e' : g = R := h2
    exact own_blk_ne ho hR (by decide) (by rw [← e']; exact h1)
  · refine ⟨hcR.os.trans (hc.os.trans h.bel.os), hcR.tape.trans (hc.tape.trans h.bel.tape), hcR.output.trans (hc.output.trans h.bel.output), Nat.le_trans hs (Nat.le_trans hc.size hcR.size), fun j h1 h2 => ?_⟩
    have hjV : j < V.heap.size := by omega
    have hjV2 : j < V2.heap.size := Nat.lt_of_lt_of_le hjV hc.size
    exact (hcR.block j hjV2 (fun e => by have e' : j = R := e; have := h.hr; omega)).trans ((hc.block j hjV h2).trans (h.bel.block j h1))
  · rcases hg g h1 with h3 | h3
    · exact Or.inl h3
    · exact Or.inr (by omega)

set_option maxHeartbeats 4000000 in
set_option maxRecDepth 100000 in
theorem do_put (S B : Nat) (c : CmdP) (v : Value) (l : List PairP) (w : World) (hB : w.heap[B]? = some (.cells #[v] 80 (0, 0))) (ho : OwnP S w v l) (hk : OkPs l) (hS : S ≤ w.heap.size) (hkind : c.kind = 1) :
    Calls Tryd.prog 39 #[.pointer (some ⟨B, 0, none⟩), vCmd c.kind c.key c.val c.iff] w fun e w' => ∃ v' kv, e = .returned (vResK (doK l c).2.kind (doK l c).2.val (doK l c).2.ver kv) ∧ w'.heap[B]? = some (.cells #[v'] 80 (0, 0)) ∧ OwnP S w' v' (doK l c).1 ∧ w'.ownsRow w.heap.size 9 1 kv (doK l c).2.keys.length ((doK l c).2.keys.flatMap rowText) ∧ Chg (Zone B v) w w' ∧ (∀ g, v'.ownBlock = some g → v.ownBlock = some g ∨ w.heap.size ≤ g) := by
  obtain ⟨post, HP⟩ := hide (fun (e : Ending) (w' : World) => ∃ v' kv, e = .returned (vResK (doK l c).2.kind (doK l c).2.val (doK l c).2.ver kv) ∧ w'.heap[B]? = some (.cells #[v'] 80 (0, 0)) ∧ OwnP S w' v' (doK l c).1 ∧ w'.ownsRow w.heap.size 9 1 kv (doK l c).2.keys.length ((doK l c).2.keys.flatMap rowText) ∧ Chg (Zone B v) w w' ∧ (∀ g, v'.ownBlock = some g → v.ownBlock = some g ∨ w.heap.size ≤ g))
  rw [HP.out]
  obtain ⟨ao, cap, rfl⟩ := owns_slice ho
  obtain ⟨C, hC⟩ := hide w.heap.size
  obtain ⟨W, hW⟩ := hide ((w.alloc (.cells (rowCmd c).toArray 37)).alloc (.cells zeroRes.toArray 56))
  obtain ⟨R, hR⟩ := hide (w.heap.size + 1)
  have HbW : Hid (Below w.heap.size w W) := by show Below _ _ _; rw [← hW.out]; exact ((Below.refl _ _).alloc (Nat.le_refl _) _).alloc (by simp) _
  have HCW : Hid (W.heap[C]? = some (.cells (rowCmd c).toArray 37 (0, 0))) := by show _ = _; rw [← hW.out, ← hC.out]; exact (hp_past _ _ (by simp)).trans (hp_at _ _ rfl)
  have HRW : Hid (W.heap[R]? = some (.cells zeroRes.toArray 56 (0, 0))) := by show _ = _; rw [← hW.out, ← hR.out]; exact hp_at _ _ (by simp)
  have HBW : Hid (W.heap[B]? = some (.cells #[.slice ao l.length cap] 80 (0, 0))) := by show _ = _; rw [HbW.out.block B (lt_of_block hB)]; exact hB
  have HoW : Hid (OwnP S W (.slice ao l.length cap) l) := own_below ho HbW.out
  have KF : Hid (∀ (dd : Nat) (os : Array Obj), Calls Tryd.prog 52 #[.slice ao l.length cap, str c.key] (Sort.grow (redrawn W dd) os) fun e w'' => e = .returned (.tuple #[.int .i64 (place l c.key : Int), .bool (isK l c.key)]) ∧ Below (Sort.grow (redrawn W dd) os).heap.size (Sort.grow (redrawn W dd) os) w'') := fun dd os => find_law c.key _ l _ _ (OwnP.prs (own_below HoW.out (below_regrown W dd os))) hk
  obtain ⟨k, hkq⟩ := hide (place l c.key)
  obtain ⟨q, hq⟩ := hide (isK l c.key)
  obtain ⟨n, hn⟩ := hide l.length
  have HP0 := HP
  rw [hn.out] at HP0
  have HS := Lib.hid hS
  have Hk := Lib.hid hk
  have Hlt := Lib.hid (lt_of_block hB)
  have Hkind := Lib.hid hkind
  clear hkind hB ho hk hS
  rw [hn.out] at HBW KF
  rw [hkq.out, hq.out] at KF
  have C0 := fun (dd : Nat) (os : Array Obj) => cell_regrown (cell_n HBW.out 0 (v := .slice ao n cap) rfl) dd os
  have C1 := fun (dd : Nat) (os : Array Obj) => cell_regrown (cell_n HCW.out 1 (v := str c.key) rfl) dd os
  go_enter Tryd.func39, Tryd.ntmps39
  go_upto_region 1 with fail
  rw [hW.out]
  try rw [hR.out]
  try rw [hC.out]
  go_cut [5, 6] from 9 to 18 (fun s5 s6 wx => s5 = .int .i64 (k : Int) ∧ s6 = .bool q ∧ Hid (Below W.heap.size W wx))
  case first =>
    refine wp_region_quiet_below (by kernel_rfl) (by kernel_rfl) ?_
    repeat (go_big_quiet_step (first | (go_at_call 52; with_reducible refine Calls.regrown_of (KF.out _ _))))
    refine wpQuiet_nil ?_
    intro _ hw'
    obtain ⟨⟨dq, osq⟩, hw''⟩ := hw'
    subst hw''
    go_wp2
    go_meet
    exact ⟨rfl, rfl, below_regrown W dq osq⟩
  case rest =>
    obtain ⟨U, hU⟩ : ∃ U, U = wc := ⟨_, rfl⟩
    subst hU
    obtain ⟨rfl, rfl, hbU⟩ := hcut
    clear C0 C1
    go_upto_region 3 with fail
    obtain ⟨W2, hW2⟩ := hide (U.alloc (.cells #[.string ⟨#[]⟩, .string ⟨#[]⟩, .int .i64 0] 25))
    obtain ⟨P, hP⟩ := hide U.heap.size
    have HbW2 : Hid (Below W.heap.size W W2) := by show Below _ _ _; rw [← hW2.out]; exact hbU.out.trans (((Below.refl _ _).alloc (Nat.le_refl _) _).mono hbU.out.size)
    have HB2 : Hid (W2.heap[B]? = some (.cells #[.slice ao n cap] 80 (0, 0))) := (HbW2.out.block _ (lt_of_block HBW.out)).trans HBW.out
    have HO2 : Hid (W2.ownsRow S 25 3 (.slice ao n cap) n (l.flatMap rowPair)) := by show World.ownsRow _ _ _ _ _ _ _; have h := own_below HoW.out HbW2.out; rw [hn.out] at h; exact h
    have HC2 : Hid (W2.heap[C]? = some (.cells (rowCmd c).toArray 37 (0, 0))) := (HbW2.out.block _ (lt_of_block HCW.out)).trans HCW.out
    have HR2 : Hid (W2.heap[R]? = some (.cells zeroRes.toArray 56 (0, 0))) := (HbW2.out.block _ (lt_of_block HRW.out)).trans HRW.out
    have HP2 : Hid (W2.heap[P]? = some (.cells (rowPair zeroP).toArray 25 (0, 0))) := by show _ = _; rw [← hW2.out, ← hP.out]; exact hp_at _ _ rfl
    have HPu : Hid (W.heap.size ≤ P) := by show _ ≤ _; rw [← hP.out]; exact hbU.out.size
    have HB0 : Hid (Below w.heap.size w W2) := HbW.out.trans (HbW2.out.mono HbW.out.size)
    have HCl : Hid (w.heap.size ≤ C) := by show _ ≤ _; rw [hC.out]; exact Nat.le_refl _
    have HRl : Hid (w.heap.size ≤ R) := by show _ ≤ _; rw [← hR.out]; omega
    have HPl : Hid (w.heap.size ≤ P) := Nat.le_trans HbW.out.size HPu.out
    rw [hW2.out, hP.out]
    go_upto_if 19 with fail
    go_cut [] from 20 to 26 (fun wx => Hid (DoAt w wx S B C R P (.slice ao n cap) l c))
    case first =>
      cases q
      · have hold : oldK l c.key = zeroP := oldK_no hq.out
        have HD : Hid (DoAt w W2 S B C R P (.slice ao n cap) l c) := ⟨HB2.out, by show World.ownsRow _ _ _ _ _ _ _; rw [hn.out]; exact HO2.out, HC2.out, HR2.out, by rw [hold]; exact HP2.out, HB0.out, HCl.out, HRl.out, HPl.out⟩
        clear hold
        go_wp2_with fail
        go_meet
        exact HD
      · obtain ⟨hkl, hkey⟩ := isK_at hq.out
        have hold : oldK l c.key = l[place l c.key] := by unfold oldK; rw [if_pos hq.out, List.getD_eq_getElem?_getD, List.getElem?_eq_getElem hkl]; rfl
        simp only [hkq.out] at hkl hold hkey
        have hkn : k < n := by rw [← hn.out]; exact hkl
        obtain ⟨g, rfl⟩ : ∃ g, ao = some ⟨g, 0, none⟩ := by
          rcases HO2.out.2 with ⟨hv, h0⟩ | ⟨g, c, cur, hv, _⟩
          · omega
          · injection hv with e1; exact ⟨g, e1⟩
        obtain ⟨p0, p1, p2⟩ := own_pair HO2.out hkl
        obtain ⟨y, hy⟩ := hide l[k]
        rw [hy.out] at p0 p1 p2 hold
        have c0 := cell_n HB2.out 0 (v := .slice (some ⟨g, 0, none⟩) n cap) rfl
        have z0 := cell_n HP2.out 0 (v := .string ⟨#[]⟩) rfl
        have z1 := cell_n HP2.out 1 (v := .string ⟨#[]⟩) rfl
        have z2 := cell_n HP2.out 2 (v := .int .i64 0) rfl
        have f0 := free_n HP2.out 0
        have f1 := free_n HP2.out 1
        have f2 := free_n HP2.out 2
        have hki : (k : Int) < (n : Int) := by omega
        have HD : Hid (DoAt w (setAll W2 P (rowPair y)) S B C R P (.slice (some ⟨g, 0, none⟩) n cap) l c) := by
          have hlt1 := lt_of_block HBW.out
          have hpb : P ≠ B := fun e => by have := HPu.out; omega
          have hpc : P ≠ C := fun e => by have := HPu.out; have := lt_of_block HCW.out; omega
          have hpr : P ≠ R := fun e => by have := HPu.out; have := lt_of_block HRW.out; omega
          refine ⟨setAll_other HB2.out hpb _, ?_, setAll_other HC2.out hpc _, setAll_other HR2.out hpr _, by rw [hold]; exact setAll_at (xs := rowPair zeroP) HP2.out _ rfl, setAll_below HB0.out HPl.out _, HCl.out, HRl.out, HPl.out⟩
          show World.ownsRow _ _ _ _ _ _ _
          rw [hn.out]
          refine own_chg HO2.out (setFrom_chg P _ W2 0) (fun j hj e => ?_)
          have e1 : g = j := by simpa [Value.ownBlock] using hj
          have e2 : j = P := e
          have := (HoW.out.lt g (by simp [Value.ownBlock])).2
          have := HPu.out
          omega
        clear hold hkey
        go_wp2_with fail
        go_meet
        exact HD
    case rest =>
      obtain ⟨V, hV⟩ : ∃ V, V = wc := ⟨_, rfl⟩
      subst hV
      have HD := hcut
      clear hcut
      have hgR : (Value.slice ao n cap).ownBlock ≠ some R := own_blk_ne (HD.out.oo) HD.out.rr (by decide)
      have hSV : S ≤ V.heap.size := Nat.le_trans HS.out HD.out.bel.size
      have k0 := cell_n HD.out.cc 0 (v := .int .i64 c.kind) rfl
      have k1 := cell_n HD.out.cc 1 (v := str c.key) rfl
      have k2 := cell_n HD.out.cc 2 (v := str c.val) rfl
      have hRB : Hid (R ≠ B) := blk_ne HD.out.rr HD.out.bb (by decide)
      have HgR := Lib.hid hgR
      clear hgR
      have t1 : (c.kind == 1) = true := by rw [Hkind.out]; rfl
      have hd : Hid (doK l c = putK l c.key c.val) := by show _ = _; unfold doK; rw [if_pos Hkind.out]
      have KP := Lib.hid (put_law S B c.key c.val _ l V HD.out.bb HD.out.oo Hk.out hSV)
      go_wp2_with fail
      refine KP.out.mono ?_
      rintro e V2 ⟨v', rfl, hb', ho', hc', hg'⟩
      have hR2 : V2.heap[R]? = some (.cells zeroRes.toArray 56 (0, 0)) := hc'.at HD.out.rr (fun e => by
        rcases e with e | e
        · exact hRB.out e
        · exact HgR.out e)
      have HEall : Hid (post (.returned (vResK (putK l c.key c.val).2.kind [] (putK l c.key c.val).2.ver (.slice none 0 0))) (setAll V2 R (rowRes (putK l c.key c.val).2.kind [] (putK l c.key c.val).2.ver (.slice none 0 0)))) := by show post _ _; rw [← HP0.out]; exact HD.out.put Hlt.out hd.out hb' ho' hc' hg' hR2 rfl rfl
      have HER : Hid ((setAll V2 R (rowRes (putK l c.key c.val).2.kind [] (putK l c.key c.val).2.ver (.slice none 0 0))).heap[R]? = some (.cells (rowRes (putK l c.key c.val).2.kind [] (putK l c.key c.val).2.ver (.slice none 0 0)).toArray 56 (0, 0))) := setAll_at (xs := zeroRes) hR2 _ rfl
      obtain ⟨r0, r1, r2, r3⟩ := four_cellsK hR2
      obtain ⟨f0, f1, f2, f3⟩ := four_freeK hR2
      clear hb' ho' hc' hg' hR2
      obtain ⟨rk, hrk⟩ := hide (putK l c.key c.val).2.kind
      obtain ⟨rv, hrv⟩ := hide (putK l c.key c.val).2.ver
      rw [hrk.out, hrv.out] at HEall HER
      rw [hrk.out, hrv.out]
      dsimp only
      go_wp2_with fail
      change bodyPost _ _ _ Exit.ret _ (setAll V2 R (rowRes rk [] rv (.slice none 0 0)))
      generalize setAll V2 R (rowRes rk [] rv (.slice none 0 0)) = W9 at HEall HER ⊢
      clear r0 r1 r2 r3 f0 f1 f2 f3
      obtain ⟨r0, r1, r2, r3⟩ := four_cellsK HER.out
      refine bodyPost_ret (by simp [results, Tryd.results39, go_sem, r0, r1, r2, r3]; rfl) rfl ?_
      exact HEall.out


set_option maxHeartbeats 4000000 in
set_option maxRecDepth 100000 in
theorem do_append (S B : Nat) (c : CmdP) (v : Value) (l : List PairP) (w : World) (hB : w.heap[B]? = some (.cells #[v] 80 (0, 0))) (ho : OwnP S w v l) (hk : OkPs l) (hS : S ≤ w.heap.size) (hkind : c.kind = 5) (hcv : c.val.length ≤ 64) :
    Calls Tryd.prog 39 #[.pointer (some ⟨B, 0, none⟩), vCmd c.kind c.key c.val c.iff] w fun e w' => ∃ v' kv, e = .returned (vResK (doK l c).2.kind (doK l c).2.val (doK l c).2.ver kv) ∧ w'.heap[B]? = some (.cells #[v'] 80 (0, 0)) ∧ OwnP S w' v' (doK l c).1 ∧ w'.ownsRow w.heap.size 9 1 kv (doK l c).2.keys.length ((doK l c).2.keys.flatMap rowText) ∧ Chg (Zone B v) w w' ∧ (∀ g, v'.ownBlock = some g → v.ownBlock = some g ∨ w.heap.size ≤ g) := by
  obtain ⟨post, HP⟩ := hide (fun (e : Ending) (w' : World) => ∃ v' kv, e = .returned (vResK (doK l c).2.kind (doK l c).2.val (doK l c).2.ver kv) ∧ w'.heap[B]? = some (.cells #[v'] 80 (0, 0)) ∧ OwnP S w' v' (doK l c).1 ∧ w'.ownsRow w.heap.size 9 1 kv (doK l c).2.keys.length ((doK l c).2.keys.flatMap rowText) ∧ Chg (Zone B v) w w' ∧ (∀ g, v'.ownBlock = some g → v.ownBlock = some g ∨ w.heap.size ≤ g))
  rw [HP.out]
  obtain ⟨ao, cap, rfl⟩ := owns_slice ho
  obtain ⟨C, hC⟩ := hide w.heap.size
  obtain ⟨W, hW⟩ := hide ((w.alloc (.cells (rowCmd c).toArray 37)).alloc (.cells zeroRes.toArray 56))
  obtain ⟨R, hR⟩ := hide (w.heap.size + 1)
  have HbW : Hid (Below w.heap.size w W) := by show Below _ _ _; rw [← hW.out]; exact ((Below.refl _ _).alloc (Nat.le_refl _) _).alloc (by simp) _
  have HCW : Hid (W.heap[C]? = some (.cells (rowCmd c).toArray 37 (0, 0))) := by show _ = _; rw [← hW.out, ← hC.out]; exact (hp_past _ _ (by simp)).trans (hp_at _ _ rfl)
  have HRW : Hid (W.heap[R]? = some (.cells zeroRes.toArray 56 (0, 0))) := by show _ = _; rw [← hW.out, ← hR.out]; exact hp_at _ _ (by simp)
  have HBW : Hid (W.heap[B]? = some (.cells #[.slice ao l.length cap] 80 (0, 0))) := by show _ = _; rw [HbW.out.block B (lt_of_block hB)]; exact hB
  have HoW : Hid (OwnP S W (.slice ao l.length cap) l) := own_below ho HbW.out
  have KF : Hid (∀ (dd : Nat) (os : Array Obj), Calls Tryd.prog 52 #[.slice ao l.length cap, str c.key] (Sort.grow (redrawn W dd) os) fun e w'' => e = .returned (.tuple #[.int .i64 (place l c.key : Int), .bool (isK l c.key)]) ∧ Below (Sort.grow (redrawn W dd) os).heap.size (Sort.grow (redrawn W dd) os) w'') := fun dd os => find_law c.key _ l _ _ (OwnP.prs (own_below HoW.out (below_regrown W dd os))) hk
  obtain ⟨k, hkq⟩ := hide (place l c.key)
  obtain ⟨q, hq⟩ := hide (isK l c.key)
  obtain ⟨n, hn⟩ := hide l.length
  have HP0 := HP
  rw [hn.out] at HP0
  have HS := Lib.hid hS
  have Hk := Lib.hid hk
  have Hlt := Lib.hid (lt_of_block hB)
  have Hkind := Lib.hid hkind
  clear hkind hB ho hk hS
  rw [hn.out] at HBW KF
  rw [hkq.out, hq.out] at KF
  have C0 := fun (dd : Nat) (os : Array Obj) => cell_regrown (cell_n HBW.out 0 (v := .slice ao n cap) rfl) dd os
  have C1 := fun (dd : Nat) (os : Array Obj) => cell_regrown (cell_n HCW.out 1 (v := str c.key) rfl) dd os
  go_enter Tryd.func39, Tryd.ntmps39
  go_upto_region 1 with fail
  rw [hW.out]
  try rw [hR.out]
  try rw [hC.out]
  go_cut [5, 6] from 9 to 18 (fun s5 s6 wx => s5 = .int .i64 (k : Int) ∧ s6 = .bool q ∧ Hid (Below W.heap.size W wx))
  case first =>
    refine wp_region_quiet_below (by kernel_rfl) (by kernel_rfl) ?_
    repeat (go_big_quiet_step (first | (go_at_call 52; with_reducible refine Calls.regrown_of (KF.out _ _))))
    refine wpQuiet_nil ?_
    intro _ hw'
    obtain ⟨⟨dq, osq⟩, hw''⟩ := hw'
    subst hw''
    go_wp2
    go_meet
    exact ⟨rfl, rfl, below_regrown W dq osq⟩
  case rest =>
    obtain ⟨U, hU⟩ : ∃ U, U = wc := ⟨_, rfl⟩
    subst hU
    obtain ⟨rfl, rfl, hbU⟩ := hcut
    clear C0 C1
    go_upto_region 3 with fail
    obtain ⟨W2, hW2⟩ := hide (U.alloc (.cells #[.string ⟨#[]⟩, .string ⟨#[]⟩, .int .i64 0] 25))
    obtain ⟨P, hP⟩ := hide U.heap.size
    have HbW2 : Hid (Below W.heap.size W W2) := by show Below _ _ _; rw [← hW2.out]; exact hbU.out.trans (((Below.refl _ _).alloc (Nat.le_refl _) _).mono hbU.out.size)
    have HB2 : Hid (W2.heap[B]? = some (.cells #[.slice ao n cap] 80 (0, 0))) := (HbW2.out.block _ (lt_of_block HBW.out)).trans HBW.out
    have HO2 : Hid (W2.ownsRow S 25 3 (.slice ao n cap) n (l.flatMap rowPair)) := by show World.ownsRow _ _ _ _ _ _ _; have h := own_below HoW.out HbW2.out; rw [hn.out] at h; exact h
    have HC2 : Hid (W2.heap[C]? = some (.cells (rowCmd c).toArray 37 (0, 0))) := (HbW2.out.block _ (lt_of_block HCW.out)).trans HCW.out
    have HR2 : Hid (W2.heap[R]? = some (.cells zeroRes.toArray 56 (0, 0))) := (HbW2.out.block _ (lt_of_block HRW.out)).trans HRW.out
    have HP2 : Hid (W2.heap[P]? = some (.cells (rowPair zeroP).toArray 25 (0, 0))) := by show _ = _; rw [← hW2.out, ← hP.out]; exact hp_at _ _ rfl
    have HPu : Hid (W.heap.size ≤ P) := by show _ ≤ _; rw [← hP.out]; exact hbU.out.size
    have HB0 : Hid (Below w.heap.size w W2) := HbW.out.trans (HbW2.out.mono HbW.out.size)
    have HCl : Hid (w.heap.size ≤ C) := by show _ ≤ _; rw [hC.out]; exact Nat.le_refl _
    have HRl : Hid (w.heap.size ≤ R) := by show _ ≤ _; rw [← hR.out]; omega
    have HPl : Hid (w.heap.size ≤ P) := Nat.le_trans HbW.out.size HPu.out
    rw [hW2.out, hP.out]
    go_upto_if 19 with fail
    go_cut [] from 20 to 26 (fun wx => Hid (DoAt w wx S B C R P (.slice ao n cap) l c))
    case first =>
      cases q
      · have hold : oldK l c.key = zeroP := oldK_no hq.out
        have HD : Hid (DoAt w W2 S B C R P (.slice ao n cap) l c) := ⟨HB2.out, by show World.ownsRow _ _ _ _ _ _ _; rw [hn.out]; exact HO2.out, HC2.out, HR2.out, by rw [hold]; exact HP2.out, HB0.out, HCl.out, HRl.out, HPl.out⟩
        clear hold
        go_wp2_with fail
        go_meet
        exact HD
      · obtain ⟨hkl, hkey⟩ := isK_at hq.out
        have hold : oldK l c.key = l[place l c.key] := by unfold oldK; rw [if_pos hq.out, List.getD_eq_getElem?_getD, List.getElem?_eq_getElem hkl]; rfl
        simp only [hkq.out] at hkl hold hkey
        have hkn : k < n := by rw [← hn.out]; exact hkl
        obtain ⟨g, rfl⟩ : ∃ g, ao = some ⟨g, 0, none⟩ := by
          rcases HO2.out.2 with ⟨hv, h0⟩ | ⟨g, c, cur, hv, _⟩
          · omega
          · injection hv with e1; exact ⟨g, e1⟩
        obtain ⟨p0, p1, p2⟩ := own_pair HO2.out hkl
        obtain ⟨y, hy⟩ := hide l[k]
        rw [hy.out] at p0 p1 p2 hold
        have c0 := cell_n HB2.out 0 (v := .slice (some ⟨g, 0, none⟩) n cap) rfl
        have z0 := cell_n HP2.out 0 (v := .string ⟨#[]⟩) rfl
        have z1 := cell_n HP2.out 1 (v := .string ⟨#[]⟩) rfl
        have z2 := cell_n HP2.out 2 (v := .int .i64 0) rfl
        have f0 := free_n HP2.out 0
        have f1 := free_n HP2.out 1
        have f2 := free_n HP2.out 2
        have hki : (k : Int) < (n : Int) := by omega
        have HD : Hid (DoAt w (setAll W2 P (rowPair y)) S B C R P (.slice (some ⟨g, 0, none⟩) n cap) l c) := by
          have hlt1 := lt_of_block HBW.out
          have hpb : P ≠ B := fun e => by have := HPu.out; omega
          have hpc : P ≠ C := fun e => by have := HPu.out; have := lt_of_block HCW.out; omega
          have hpr : P ≠ R := fun e => by have := HPu.out; have := lt_of_block HRW.out; omega
          refine ⟨setAll_other HB2.out hpb _, ?_, setAll_other HC2.out hpc _, setAll_other HR2.out hpr _, by rw [hold]; exact setAll_at (xs := rowPair zeroP) HP2.out _ rfl, setAll_below HB0.out HPl.out _, HCl.out, HRl.out, HPl.out⟩
          show World.ownsRow _ _ _ _ _ _ _
          rw [hn.out]
          refine own_chg HO2.out (setFrom_chg P _ W2 0) (fun j hj e => ?_)
          have e1 : g = j := by simpa [Value.ownBlock] using hj
          have e2 : j = P := e
          have := (HoW.out.lt g (by simp [Value.ownBlock])).2
          have := HPu.out
          omega
        clear hold hkey
        go_wp2_with fail
        go_meet
        exact HD
    case rest =>
      obtain ⟨V, hV⟩ : ∃ V, V = wc := ⟨_, rfl⟩
      subst hV
      have HD := hcut
      clear hcut
      have hgR : (Value.slice ao n cap).ownBlock ≠ some R := own_blk_ne (HD.out.oo) HD.out.rr (by decide)
      have hSV : S ≤ V.heap.size := Nat.le_trans HS.out HD.out.bel.size
      have k0 := cell_n HD.out.cc 0 (v := .int .i64 c.kind) rfl
      have k1 := cell_n HD.out.cc 1 (v := str c.key) rfl
      have k2 := cell_n HD.out.cc 2 (v := str c.val) rfl
      have hRB : Hid (R ≠ B) := blk_ne HD.out.rr HD.out.bb (by decide)
      have HgR := Lib.hid hgR
      clear hgR
      have t1 : (c.kind == 1) = false := by rw [Hkind.out]; rfl
      have t5 : (c.kind == 5) = true := by rw [Hkind.out]; rfl
      have p1 := cell_n HD.out.pp 1 (v := str (oldK l c.key).val) rfl
      have hd0 : Hid (doK l c = putK l c.key ((oldK l c.key).val ++ c.val)) := by show _ = _; unfold doK; rw [if_neg (by rw [Hkind.out]; decide), if_pos Hkind.out]
      have hov : (oldK l c.key).val.length ≤ 64 := by
        cases hi : isK l c.key
        · rw [oldK_no hi]; decide
        · exact Hk.out.val _ (oldK_at hi).1
      obtain ⟨yv, hyv⟩ := hide (oldK l c.key).val
      rw [hyv.out] at hd0 p1 hov
      have hadd : ¬ 9223372036854775807 < yv.length + c.val.length := by omega
      have hd : Hid (doK l c = putK l c.key (yv ++ c.val)) := hd0
      have KP := Lib.hid (put_law S B c.key (yv ++ c.val) _ l V HD.out.bb HD.out.oo Hk.out hSV)
      go_wp2_with fail
      refine KP.out.mono ?_
      rintro e V2 ⟨v', rfl, hb', ho', hc', hg'⟩
      have hR2 : V2.heap[R]? = some (.cells zeroRes.toArray 56 (0, 0)) := hc'.at HD.out.rr (fun e => by
        rcases e with e | e
        · exact hRB.out e
        · exact HgR.out e)
      have HEall : Hid (post (.returned (vResK (putK l c.key (yv ++ c.val)).2.kind [] (putK l c.key (yv ++ c.val)).2.ver (.slice none 0 0))) (setAll V2 R (rowRes (putK l c.key (yv ++ c.val)).2.kind [] (putK l c.key (yv ++ c.val)).2.ver (.slice none 0 0)))) := by show post _ _; rw [← HP0.out]; exact HD.out.put Hlt.out hd.out hb' ho' hc' hg' hR2 rfl rfl
      have HER : Hid ((setAll V2 R (rowRes (putK l c.key (yv ++ c.val)).2.kind [] (putK l c.key (yv ++ c.val)).2.ver (.slice none 0 0))).heap[R]? = some (.cells (rowRes (putK l c.key (yv ++ c.val)).2.kind [] (putK l c.key (yv ++ c.val)).2.ver (.slice none 0 0)).toArray 56 (0, 0))) := setAll_at (xs := zeroRes) hR2 _ rfl
      obtain ⟨r0, r1, r2, r3⟩ := four_cellsK hR2
      obtain ⟨f0, f1, f2, f3⟩ := four_freeK hR2
      clear hb' ho' hc' hg' hR2
      obtain ⟨rk, hrk⟩ := hide (putK l c.key (yv ++ c.val)).2.kind
      obtain ⟨rv, hrv⟩ := hide (putK l c.key (yv ++ c.val)).2.ver
      rw [hrk.out, hrv.out] at HEall HER
      rw [hrk.out, hrv.out]
      dsimp only
      go_wp2_with fail
      change bodyPost _ _ _ Exit.ret _ (setAll V2 R (rowRes rk [] rv (.slice none 0 0)))
      generalize setAll V2 R (rowRes rk [] rv (.slice none 0 0)) = W9 at HEall HER ⊢
      clear r0 r1 r2 r3 f0 f1 f2 f3
      obtain ⟨r0, r1, r2, r3⟩ := four_cellsK HER.out
      refine bodyPost_ret (by simp [results, Tryd.results39, go_sem, r0, r1, r2, r3]; rfl) rfl ?_
      exact HEall.out


set_option maxHeartbeats 4000000 in
set_option maxRecDepth 100000 in
theorem do_swap (S B : Nat) (c : CmdP) (v : Value) (l : List PairP) (w : World) (hB : w.heap[B]? = some (.cells #[v] 80 (0, 0))) (ho : OwnP S w v l) (hk : OkPs l) (hS : S ≤ w.heap.size) (hkind : c.kind = 4) :
    Calls Tryd.prog 39 #[.pointer (some ⟨B, 0, none⟩), vCmd c.kind c.key c.val c.iff] w fun e w' => ∃ v' kv, e = .returned (vResK (doK l c).2.kind (doK l c).2.val (doK l c).2.ver kv) ∧ w'.heap[B]? = some (.cells #[v'] 80 (0, 0)) ∧ OwnP S w' v' (doK l c).1 ∧ w'.ownsRow w.heap.size 9 1 kv (doK l c).2.keys.length ((doK l c).2.keys.flatMap rowText) ∧ Chg (Zone B v) w w' ∧ (∀ g, v'.ownBlock = some g → v.ownBlock = some g ∨ w.heap.size ≤ g) := by
  obtain ⟨post, HP⟩ := hide (fun (e : Ending) (w' : World) => ∃ v' kv, e = .returned (vResK (doK l c).2.kind (doK l c).2.val (doK l c).2.ver kv) ∧ w'.heap[B]? = some (.cells #[v'] 80 (0, 0)) ∧ OwnP S w' v' (doK l c).1 ∧ w'.ownsRow w.heap.size 9 1 kv (doK l c).2.keys.length ((doK l c).2.keys.flatMap rowText) ∧ Chg (Zone B v) w w' ∧ (∀ g, v'.ownBlock = some g → v.ownBlock = some g ∨ w.heap.size ≤ g))
  rw [HP.out]
  obtain ⟨ao, cap, rfl⟩ := owns_slice ho
  obtain ⟨C, hC⟩ := hide w.heap.size
  obtain ⟨W, hW⟩ := hide ((w.alloc (.cells (rowCmd c).toArray 37)).alloc (.cells zeroRes.toArray 56))
  obtain ⟨R, hR⟩ := hide (w.heap.size + 1)
  have HbW : Hid (Below w.heap.size w W) := by show Below _ _ _; rw [← hW.out]; exact ((Below.refl _ _).alloc (Nat.le_refl _) _).alloc (by simp) _
  have HCW : Hid (W.heap[C]? = some (.cells (rowCmd c).toArray 37 (0, 0))) := by show _ = _; rw [← hW.out, ← hC.out]; exact (hp_past _ _ (by simp)).trans (hp_at _ _ rfl)
  have HRW : Hid (W.heap[R]? = some (.cells zeroRes.toArray 56 (0, 0))) := by show _ = _; rw [← hW.out, ← hR.out]; exact hp_at _ _ (by simp)
  have HBW : Hid (W.heap[B]? = some (.cells #[.slice ao l.length cap] 80 (0, 0))) := by show _ = _; rw [HbW.out.block B (lt_of_block hB)]; exact hB
  have HoW : Hid (OwnP S W (.slice ao l.length cap) l) := own_below ho HbW.out
  have KF : Hid (∀ (dd : Nat) (os : Array Obj), Calls Tryd.prog 52 #[.slice ao l.length cap, str c.key] (Sort.grow (redrawn W dd) os) fun e w'' => e = .returned (.tuple #[.int .i64 (place l c.key : Int), .bool (isK l c.key)]) ∧ Below (Sort.grow (redrawn W dd) os).heap.size (Sort.grow (redrawn W dd) os) w'') := fun dd os => find_law c.key _ l _ _ (OwnP.prs (own_below HoW.out (below_regrown W dd os))) hk
  obtain ⟨k, hkq⟩ := hide (place l c.key)
  obtain ⟨q, hq⟩ := hide (isK l c.key)
  obtain ⟨n, hn⟩ := hide l.length
  have HP0 := HP
  rw [hn.out] at HP0
  have HS := Lib.hid hS
  have Hk := Lib.hid hk
  have Hlt := Lib.hid (lt_of_block hB)
  have Hkind := Lib.hid hkind
  clear hkind hB ho hk hS
  rw [hn.out] at HBW KF
  rw [hkq.out, hq.out] at KF
  have C0 := fun (dd : Nat) (os : Array Obj) => cell_regrown (cell_n HBW.out 0 (v := .slice ao n cap) rfl) dd os
  have C1 := fun (dd : Nat) (os : Array Obj) => cell_regrown (cell_n HCW.out 1 (v := str c.key) rfl) dd os
  go_enter Tryd.func39, Tryd.ntmps39
  go_upto_region 1 with fail
  rw [hW.out]
  try rw [hR.out]
  try rw [hC.out]
  go_cut [5, 6] from 9 to 18 (fun s5 s6 wx => s5 = .int .i64 (k : Int) ∧ s6 = .bool q ∧ Hid (Below W.heap.size W wx))
  case first =>
    refine wp_region_quiet_below (by kernel_rfl) (by kernel_rfl) ?_
    repeat (go_big_quiet_step (first | (go_at_call 52; with_reducible refine Calls.regrown_of (KF.out _ _))))
    refine wpQuiet_nil ?_
    intro _ hw'
    obtain ⟨⟨dq, osq⟩, hw''⟩ := hw'
    subst hw''
    go_wp2
    go_meet
    exact ⟨rfl, rfl, below_regrown W dq osq⟩
  case rest =>
    obtain ⟨U, hU⟩ : ∃ U, U = wc := ⟨_, rfl⟩
    subst hU
    obtain ⟨rfl, rfl, hbU⟩ := hcut
    clear C0 C1
    go_upto_region 3 with fail
    obtain ⟨W2, hW2⟩ := hide (U.alloc (.cells #[.string ⟨#[]⟩, .string ⟨#[]⟩, .int .i64 0] 25))
    obtain ⟨P, hP⟩ := hide U.heap.size
    have HbW2 : Hid (Below W.heap.size W W2) := by show Below _ _ _; rw [← hW2.out]; exact hbU.out.trans (((Below.refl _ _).alloc (Nat.le_refl _) _).mono hbU.out.size)
    have HB2 : Hid (W2.heap[B]? = some (.cells #[.slice ao n cap] 80 (0, 0))) := (HbW2.out.block _ (lt_of_block HBW.out)).trans HBW.out
    have HO2 : Hid (W2.ownsRow S 25 3 (.slice ao n cap) n (l.flatMap rowPair)) := by show World.ownsRow _ _ _ _ _ _ _; have h := own_below HoW.out HbW2.out; rw [hn.out] at h; exact h
    have HC2 : Hid (W2.heap[C]? = some (.cells (rowCmd c).toArray 37 (0, 0))) := (HbW2.out.block _ (lt_of_block HCW.out)).trans HCW.out
    have HR2 : Hid (W2.heap[R]? = some (.cells zeroRes.toArray 56 (0, 0))) := (HbW2.out.block _ (lt_of_block HRW.out)).trans HRW.out
    have HP2 : Hid (W2.heap[P]? = some (.cells (rowPair zeroP).toArray 25 (0, 0))) := by show _ = _; rw [← hW2.out, ← hP.out]; exact hp_at _ _ rfl
    have HPu : Hid (W.heap.size ≤ P) := by show _ ≤ _; rw [← hP.out]; exact hbU.out.size
    have HB0 : Hid (Below w.heap.size w W2) := HbW.out.trans (HbW2.out.mono HbW.out.size)
    have HCl : Hid (w.heap.size ≤ C) := by show _ ≤ _; rw [hC.out]; exact Nat.le_refl _
    have HRl : Hid (w.heap.size ≤ R) := by show _ ≤ _; rw [← hR.out]; omega
    have HPl : Hid (w.heap.size ≤ P) := Nat.le_trans HbW.out.size HPu.out
    rw [hW2.out, hP.out]
    go_upto_if 19 with fail
    go_cut [] from 20 to 26 (fun wx => Hid (DoAt w wx S B C R P (.slice ao n cap) l c))
    case first =>
      cases q
      · have hold : oldK l c.key = zeroP := oldK_no hq.out
        have HD : Hid (DoAt w W2 S B C R P (.slice ao n cap) l c) := ⟨HB2.out, by show World.ownsRow _ _ _ _ _ _ _; rw [hn.out]; exact HO2.out, HC2.out, HR2.out, by rw [hold]; exact HP2.out, HB0.out, HCl.out, HRl.out, HPl.out⟩
        clear hold
        go_wp2_with fail
        go_meet
        exact HD
      · obtain ⟨hkl, hkey⟩ := isK_at hq.out
        have hold : oldK l c.key = l[place l c.key] := by unfold oldK; rw [if_pos hq.out, List.getD_eq_getElem?_getD, List.getElem?_eq_getElem hkl]; rfl
        simp only [hkq.out] at hkl hold hkey
        have hkn : k < n := by rw [← hn.out]; exact hkl
        obtain ⟨g, rfl⟩ : ∃ g, ao = some ⟨g, 0, none⟩ := by
          rcases HO2.out.2 with ⟨hv, h0⟩ | ⟨g, c, cur, hv, _⟩
          · omega
          · injection hv with e1; exact ⟨g, e1⟩
        obtain ⟨p0, p1, p2⟩ := own_pair HO2.out hkl
        obtain ⟨y, hy⟩ := hide l[k]
        rw [hy.out] at p0 p1 p2 hold
        have c0 := cell_n HB2.out 0 (v := .slice (some ⟨g, 0, none⟩) n cap) rfl
        have z0 := cell_n HP2.out 0 (v := .string ⟨#[]⟩) rfl
        have z1 := cell_n HP2.out 1 (v := .string ⟨#[]⟩) rfl
        have z2 := cell_n HP2.out 2 (v := .int .i64 0) rfl
        have f0 := free_n HP2.out 0
        have f1 := free_n HP2.out 1
        have f2 := free_n HP2.out 2
        have hki : (k : Int) < (n : Int) := by omega
        have HD : Hid (DoAt w (setAll W2 P (rowPair y)) S B C R P (.slice (some ⟨g, 0, none⟩) n cap) l c) := by
          have hlt1 := lt_of_block HBW.out
          have hpb : P ≠ B := fun e => by have := HPu.out; omega
          have hpc : P ≠ C := fun e => by have := HPu.out; have := lt_of_block HCW.out; omega
          have hpr : P ≠ R := fun e => by have := HPu.out; have := lt_of_block HRW.out; omega
          refine ⟨setAll_other HB2.out hpb _, ?_, setAll_other HC2.out hpc _, setAll_other HR2.out hpr _, by rw [hold]; exact setAll_at (xs := rowPair zeroP) HP2.out _ rfl, setAll_below HB0.out HPl.out _, HCl.out, HRl.out, HPl.out⟩
          show World.ownsRow _ _ _ _ _ _ _
          rw [hn.out]
          refine own_chg HO2.out (setFrom_chg P _ W2 0) (fun j hj e => ?_)
          have e1 : g = j := by simpa [Value.ownBlock] using hj
          have e2 : j = P := e
          have := (HoW.out.lt g (by simp [Value.ownBlock])).2
          have := HPu.out
          omega
        clear hold hkey
        go_wp2_with fail
        go_meet
        exact HD
    case rest =>
      obtain ⟨V, hV⟩ : ∃ V, V = wc := ⟨_, rfl⟩
      subst hV
      have HD := hcut
      clear hcut
      have hgR : (Value.slice ao n cap).ownBlock ≠ some R := own_blk_ne (HD.out.oo) HD.out.rr (by decide)
      have hSV : S ≤ V.heap.size := Nat.le_trans HS.out HD.out.bel.size
      have k0 := cell_n HD.out.cc 0 (v := .int .i64 c.kind) rfl
      have k1 := cell_n HD.out.cc 1 (v := str c.key) rfl
      have k2 := cell_n HD.out.cc 2 (v := str c.val) rfl
      have hRB : Hid (R ≠ B) := blk_ne HD.out.rr HD.out.bb (by decide)
      have HgR := Lib.hid hgR
      clear hgR
      have t1 : (c.kind == 1) = false := by rw [Hkind.out]; rfl
      have t5 : (c.kind == 5) = false := by rw [Hkind.out]; rfl
      have t4 : (c.kind == 4) = true := by rw [Hkind.out]; rfl
      have p1 := cell_n HD.out.pp 1 (v := str (oldK l c.key).val) rfl
      have p2 := cell_n HD.out.pp 2 (v := .int .i64 (oldK l c.key).ver) rfl
      have k3 := cell_n HD.out.cc 3 (v := .int .i64 c.iff) rfl
      have hd0 : doK l c = (if q = false ∧ 0 < c.iff then (l, ⟨2, [], 0, []⟩) else if (oldK l c.key).ver ≠ c.iff then (l, ⟨3, (oldK l c.key).val, (oldK l c.key).ver, []⟩) else putK l c.key c.val) := by
        unfold doK
        rw [if_neg (by rw [Hkind.out]; decide), if_neg (by rw [Hkind.out]; decide), if_pos Hkind.out, hq.out]
      obtain ⟨yv, hyv⟩ := hide (oldK l c.key).val
      obtain ⟨yr, hyr⟩ := hide (oldK l c.key).ver
      rw [hyv.out, hyr.out] at hd0
      rw [hyv.out] at p1
      rw [hyr.out] at p2
      by_cases hm : q = false ∧ 0 < c.iff
      · have hd := hd0.trans (if_pos hm)
        obtain ⟨hq0, hi0⟩ := hm
        have u1 : decide (0 < c.iff) = true := decide_eq_true hi0
        clear hd0 hi0
        subst hq0
        have HE : Hid (post (.returned (vResK 2 [] 0 (.slice none 0 0))) (setAll V R (rowRes 2 [] 0 (.slice none 0 0)))) := by show post _ _; rw [← HP0.out]; exact HD.out.same Hlt.out hd rfl rfl (fun g hg e => HgR.out (by rw [← e]; exact hg))
        have HER : Hid ((setAll V R (rowRes 2 [] 0 (.slice none 0 0))).heap[R]? = some (.cells (rowRes 2 [] 0 (.slice none 0 0)).toArray 56 (0, 0))) := setAll_at (xs := zeroRes) HD.out.rr _ rfl
        obtain ⟨r0, r1, r2, r3⟩ := four_cellsK HD.out.rr
        obtain ⟨f0, f1, f2, f3⟩ := four_freeK HD.out.rr
        clear hd
        go_wp2_with fail
        change bodyPost _ _ _ Exit.ret _ (setAll V R (rowRes 2 [] 0 (.slice none 0 0)))
        generalize setAll V R (rowRes 2 [] 0 (.slice none 0 0)) = W9 at HE HER ⊢
        clear r0 r1 r2 r3 f0 f1 f2 f3
        obtain ⟨r0, r1, r2, r3⟩ := four_cellsK HER.out
        refine bodyPost_ret (by simp [results, Tryd.results39, go_sem, r0, r1, r2, r3]; rfl) rfl ?_
        exact HE.out
      · have hd1 := hd0.trans (if_neg hm)
        by_cases hv : yr ≠ c.iff
        · have hd := hd1.trans (if_pos hv)
          have u2 : (yr != c.iff) = true := by rw [bne_iff_ne]; exact hv
          have Hm := Lib.hid hm
          clear hd0 hd1 hv hm
          cases q
          · have u1 : decide (0 < c.iff) = false := decide_eq_false (fun h => Hm.out ⟨rfl, h⟩)
            have HE : Hid (post (.returned (vResK 3 yv yr (.slice none 0 0))) (setAll V R (rowRes 3 yv yr (.slice none 0 0)))) := by show post _ _; rw [← HP0.out]; exact HD.out.same Hlt.out hd rfl rfl (fun g hg e => HgR.out (by rw [← e]; exact hg))
            have HER : Hid ((setAll V R (rowRes 3 yv yr (.slice none 0 0))).heap[R]? = some (.cells (rowRes 3 yv yr (.slice none 0 0)).toArray 56 (0, 0))) := setAll_at (xs := zeroRes) HD.out.rr _ rfl
            obtain ⟨r0, r1, r2, r3⟩ := four_cellsK HD.out.rr
            obtain ⟨f0, f1, f2, f3⟩ := four_freeK HD.out.rr
            clear hd
            go_wp2_with fail
            change bodyPost _ _ _ Exit.ret _ (setAll V R (rowRes 3 yv yr (.slice none 0 0)))
            generalize setAll V R (rowRes 3 yv yr (.slice none 0 0)) = W9 at HE HER ⊢
            clear r0 r1 r2 r3 f0 f1 f2 f3
            obtain ⟨r0, r1, r2, r3⟩ := four_cellsK HER.out
            refine bodyPost_ret (by simp [results, Tryd.results39, go_sem, r0, r1, r2, r3]; rfl) rfl ?_
            exact HE.out
          · skip
            have HE : Hid (post (.returned (vResK 3 yv yr (.slice none 0 0))) (setAll V R (rowRes 3 yv yr (.slice none 0 0)))) := by show post _ _; rw [← HP0.out]; exact HD.out.same Hlt.out hd rfl rfl (fun g hg e => HgR.out (by rw [← e]; exact hg))
            have HER : Hid ((setAll V R (rowRes 3 yv yr (.slice none 0 0))).heap[R]? = some (.cells (rowRes 3 yv yr (.slice none 0 0)).toArray 56 (0, 0))) := setAll_at (xs := zeroRes) HD.out.rr _ rfl
            obtain ⟨r0, r1, r2, r3⟩ := four_cellsK HD.out.rr
            obtain ⟨f0, f1, f2, f3⟩ := four_freeK HD.out.rr
            clear hd
            go_wp2_with fail
            change bodyPost _ _ _ Exit.ret _ (setAll V R (rowRes 3 yv yr (.slice none 0 0)))
            generalize setAll V R (rowRes 3 yv yr (.slice none 0 0)) = W9 at HE HER ⊢
            clear r0 r1 r2 r3 f0 f1 f2 f3
            obtain ⟨r0, r1, r2, r3⟩ := four_cellsK HER.out
            refine bodyPost_ret (by simp [results, Tryd.results39, go_sem, r0, r1, r2, r3]; rfl) rfl ?_
            exact HE.out
        · have hd : Hid (doK l c = putK l c.key c.val) := hd1.trans (if_neg hv)
          have u2 : (yr != c.iff) = false := by rw [bne_eq_false_iff_eq]; exact Decidable.not_not.1 hv
          have Hm := Lib.hid hm
          clear hd0 hd1 hv hm
          cases q
          · have u1 : decide (0 < c.iff) = false := decide_eq_false (fun h => Hm.out ⟨rfl, h⟩)
            have KP := Lib.hid (put_law S B c.key c.val _ l V HD.out.bb HD.out.oo Hk.out hSV)
            go_wp2_with fail
            refine KP.out.mono ?_
            rintro e V2 ⟨v', rfl, hb', ho', hc', hg'⟩
            have hR2 : V2.heap[R]? = some (.cells zeroRes.toArray 56 (0, 0)) := hc'.at HD.out.rr (fun e => by
              rcases e with e | e
              · exact hRB.out e
              · exact HgR.out e)
            have HEall : Hid (post (.returned (vResK (putK l c.key c.val).2.kind [] (putK l c.key c.val).2.ver (.slice none 0 0))) (setAll V2 R (rowRes (putK l c.key c.val).2.kind [] (putK l c.key c.val).2.ver (.slice none 0 0)))) := by show post _ _; rw [← HP0.out]; exact HD.out.put Hlt.out hd.out hb' ho' hc' hg' hR2 rfl rfl
            have HER : Hid ((setAll V2 R (rowRes (putK l c.key c.val).2.kind [] (putK l c.key c.val).2.ver (.slice none 0 0))).heap[R]? = some (.cells (rowRes (putK l c.key c.val).2.kind [] (putK l c.key c.val).2.ver (.slice none 0 0)).toArray 56 (0, 0))) := setAll_at (xs := zeroRes) hR2 _ rfl
            obtain ⟨r0, r1, r2, r3⟩ := four_cellsK hR2
            obtain ⟨f0, f1, f2, f3⟩ := four_freeK hR2
            clear hb' ho' hc' hg' hR2
            obtain ⟨rk, hrk⟩ := hide (putK l c.key c.val).2.kind
            obtain ⟨rv, hrv⟩ := hide (putK l c.key c.val).2.ver
            rw [hrk.out, hrv.out] at HEall HER
            rw [hrk.out, hrv.out]
            dsimp only
            go_wp2_with fail
            change bodyPost _ _ _ Exit.ret _ (setAll V2 R (rowRes rk [] rv (.slice none 0 0)))
            generalize setAll V2 R (rowRes rk [] rv (.slice none 0 0)) = W9 at HEall HER ⊢
            clear r0 r1 r2 r3 f0 f1 f2 f3
            obtain ⟨r0, r1, r2, r3⟩ := four_cellsK HER.out
            refine bodyPost_ret (by simp [results, Tryd.results39, go_sem, r0, r1, r2, r3]; rfl) rfl ?_
            exact HEall.out
          · skip
            have KP := Lib.hid (put_law S B c.key c.val _ l V HD.out.bb HD.out.oo Hk.out hSV)
            go_wp2_with fail
            refine KP.out.mono ?_
            rintro e V2 ⟨v', rfl, hb', ho', hc', hg'⟩
            have hR2 : V2.heap[R]? = some (.cells zeroRes.toArray 56 (0, 0)) := hc'.at HD.out.rr (fun e => by
              rcases e with e | e
              · exact hRB.out e
              · exact HgR.out e)
            have HEall : Hid (post (.returned (vResK (putK l c.key c.val).2.kind [] (putK l c.key c.val).2.ver (.slice none 0 0))) (setAll V2 R (rowRes (putK l c.key c.val).2.kind [] (putK l c.key c.val).2.ver (.slice none 0 0)))) := by show post _ _; rw [← HP0.out]; exact HD.out.put Hlt.out hd.out hb' ho' hc' hg' hR2 rfl rfl
            have HER : Hid ((setAll V2 R (rowRes (putK l c.key c.val).2.kind [] (putK l c.key c.val).2.ver (.slice none 0 0))).heap[R]? = some (.cells (rowRes (putK l c.key c.val).2.kind [] (putK l c.key c.val).2.ver (.slice none 0 0)).toArray 56 (0, 0))) := setAll_at (xs := zeroRes) hR2 _ rfl
            obtain ⟨r0, r1, r2, r3⟩ := four_cellsK hR2
            obtain ⟨f0, f1, f2, f3⟩ := four_freeK hR2
            clear hb' ho' hc' hg' hR2
            obtain ⟨rk, hrk⟩ := hide (putK l c.key c.val).2.kind
            obtain ⟨rv, hrv⟩ := hide (putK l c.key c.val).2.ver
            rw [hrk.out, hrv.out] at HEall HER
            rw [hrk.out, hrv.out]
            dsimp only
            go_wp2_with fail
            change bodyPost _ _ _ Exit.ret _ (setAll V2 R (rowRes rk [] rv (.slice none 0 0)))
            generalize setAll V2 R (rowRes rk [] rv (.slice none 0 0)) = W9 at HEall HER ⊢
            clear r0 r1 r2 r3 f0 f1 f2 f3
            obtain ⟨r0, r1, r2, r3⟩ := four_cellsK HER.out
            refine bodyPost_ret (by simp [results, Tryd.results39, go_sem, r0, r1, r2, r3]; rfl) rfl ?_
            exact HEall.out

end Go.Proofs.YtnmlkoidmacinaaDoor
