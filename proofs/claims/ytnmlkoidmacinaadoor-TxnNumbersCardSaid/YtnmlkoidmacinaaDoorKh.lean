/-
  The map's state: what Delete does.
-/
import Derived.Test.YtnmlkoidmacinaaDoorKf
namespace Go.Proofs.YtnmlkoidmacinaaDoor
open Go.RowKit Wm Mm Dg Kv
set_option linter.unusedVariables false
set_option linter.unusedSimpArgs false

/-- where the state came to something else, and the result holds no keys -/
theorem DoAt.move {w V V2 : World} {S B C R P : Nat} {v v' : Value} {l l' : List PairP} {c : CmdP} (h : DoAt w V S B C R P v l c) (hBlt : B < w.heap.size) {kd ver : Int} {val : List UInt8} (hd : doK l c = (l', ⟨kd, val, ver, []⟩))
    (hb : V2.heap[B]? = some (.cells #[v'] 80 (0, 0))) (ho : OwnP S V2 v' l') (hc : Chg (Zone B v) V V2) (hg : ∀ g, v'.ownBlock = some g → v.ownBlock = some g ∨ V.heap.size ≤ g) (hR : V2.heap[R]? = some (.cells zeroRes.toArray 56 (0, 0)))
    {e : Ending} {w' : World} (he : e = .returned (vResK kd val ver (.slice none 0 0))) (hw : w' = setAll V2 R (rowRes kd val ver (.slice none 0 0))) :
    ∃ v' kv, e = .returned (vResK (doK l c).2.kind (doK l c).2.val (doK l c).2.ver kv) ∧ w'.heap[B]? = some (.cells #[v'] 80 (0, 0)) ∧ OwnP S w' v' (doK l c).1 ∧ w'.ownsRow w.heap.size 9 1 kv (doK l c).2.keys.length ((doK l c).2.keys.flatMap rowText) ∧ Chg (Zone B v) w w' ∧ (∀ g, v'.ownBlock = some g → v.ownBlock = some g ∨ w.heap.size ≤ g) := by
  subst hw
  rw [hd]
  have hcR := setFrom_chg R (rowRes kd val ver (.slice none 0 0)) V2 0
  have hs := h.bel.size
  refine ⟨v', .slice none 0 0, he, setAll_other hb (fun e => by have := h.hr; omega) _, own_chg ho hcR (fun g h1 h2 => ?_), World.ownsRow_nil _ _ _ _, ?_, fun g h1 => ?_⟩
  · have e' : g = R := h2
    exact own_blk_ne ho hR (by decide) (by rw [← e']; exact h1)
  · refine ⟨hcR.os.trans (hc.os.trans h.bel.os), hcR.tape.trans (hc.tape.trans h.bel.tape), hcR.output.trans (hc.output.trans h.bel.output), Nat.le_trans hs (Nat.le_trans hc.size hcR.size), fun j h1 h2 => ?_⟩
    have hjV : j < V.heap.size := by omega
    have hjV2 : j < V2.heap.size := Nat.lt_of_lt_of_le hjV hc.size
    exact (hcR.block j hjV2 (fun e => by have e' : j = R := e; have := h.hr; omega)).trans ((hc.block j hjV h2).trans (h.bel.block j h1))
  · rcases hg g h1 with h3 | h3
    · exact Or.inl h3
    · exact Or.inr (by omega)

set_option maxHeartbeats 4000000 in
set_option maxRecDepth 100000 in
theorem do_delete (S B : Nat) (c : CmdP) (v : Value) (l : List PairP) (w : World) (hB : w.heap[B]? = some (.cells #[v] 80 (0, 0))) (ho : OwnP S w v l) (hk : OkPs l) (hS : S ≤ w.heap.size) (hkind : c.kind = 3) :
    Calls Tryd.prog 39 #[.pointer (some ⟨B, 0, none⟩), vCmd c.kind c.key c.val c.iff] w fun e w' => ∃ v' kv, e = .returned (vResK (doK l c).2.kind (doK l c).2.val (doK l c).2.ver kv) ∧ w'.heap[B]? = some (.cells #[v'] 80 (0, 0)) ∧ OwnP S w' v' (doK l c).1 ∧ w'.ownsRow w.heap.size 9 1 kv (doK l c).2.keys.length ((doK l c).2.keys.flatMap rowText) ∧ Chg (Zone B v) w w' ∧ (∀ g, v'.ownBlock = some g → v.ownBlock = some g ∨ w.heap.size ≤ g) := by
  obtain ⟨post, HP⟩ := hide (fun (e : Ending) (w' : World) => ∃ v' kv, e = .returned (vResK (doK l c).2.kind (doK l c).2.val (doK l c).2.ver kv) ∧ w'.heap[B]? = some (.cells #[v'] 80 (0, 0)) ∧ OwnP S w' v' (doK l c).1 ∧ w'.ownsRow w.heap.size 9 1 kv (doK l c).2.keys.length ((doK l c).2.keys.flatMap rowText) ∧ Chg (Zone B v) w w' ∧ (∀ g, v'.ownBlock = some g → v.ownBlock = some g ∨ w.heap.size ≤ g))
  rw [HP.out]
  obtain ⟨ao, cap, rfl⟩ := owns_slice ho
  obtain ⟨C, hC⟩ := hide w.heap.size
  obtain ⟨W, hW⟩ := hide ((w.alloc (.cells (rowCmd c).toArray 37)).alloc (.cells zeroRes.toArray 56))
  obtain ⟨R, hR⟩ := hide (w.heap.size + 1)
  have HbW : Hid (Below w.heap.size w W) := by show Below _ _ _; rw [← hW.out]; exact ((Below.refl _ _).alloc (Nat.le_refl _) _).alloc (by simp) _
  have HCW : Hid (W.heap[C]? = some (.cells (rowCmd c).toArray 37 (0, 0))) := by show _ = _; rw [← hW.out, ← hC.out]; exact (hp_past _ _ (by simp)).trans (hp_at _ _ rfl)
  have HRW : Hid (W.heap[R]? = some (.cells zeroRes.toArray 56 (0, 0))) := by show _ = _; rw [← hW.out, ← hR.out]; exact hp_at _ _ (by simp)
  have HBW : Hid (W.heap[B]? = some (.cells #[.slice ao l.length cap] 80 (0, 0))) := by show _ = _; rw [HbW.out.block B (lt_of_block hB)]; exact hB
  have HoW : Hid (OwnP S W (.slice ao l.length cap) l) := own_below ho HbW.out
  have KF : Hid (∀ (dd : Nat) (os : Array Obj), Calls Tryd.prog 52 #[.slice ao l.length cap, str c.key] (Sort.grow (redrawn W dd) os) fun e w'' => e = .returned (.tuple #[.int .i64 (place l c.key : Int), .bool (isK l c.key)]) ∧ Below (Sort.grow (redrawn W dd) os).heap.size (Sort.grow (redrawn W dd) os) w'') := fun dd os => find_law c.key _ l _ _ (OwnP.prs (own_below HoW.out (below_regrown W dd os))) hk
  obtain ⟨k, hkq⟩ := hide (place l c.key)
  obtain ⟨q, hq⟩ := hide (isK l c.key)
  obtain ⟨n, hn⟩ := hide l.length
  have HP0 := HP
  rw [hn.out] at HP0
  have HS := Lib.hid hS
  have Hk := Lib.hid hk
  have Hlt := Lib.hid (lt_of_block hB)
  have Hkind := Lib.hid hkind
  clear hkind hB ho hk hS
  rw [hn.out] at HBW KF
  rw [hkq.out, hq.out] at KF
  have C0 := fun (dd : Nat) (os : Array Obj) => cell_regrown (cell_n HBW.out 0 (v := .slice ao n cap) rfl) dd os
  have C1 := fun (dd : Nat) (os : Array Obj) => cell_regrown (cell_n HCW.out 1 (v := str c.key) rfl) dd os
  go_enter Tryd.func39, Tryd.ntmps39
  go_upto_region 1 with fail
  rw [hW.out]
  try rw [hR.out]
  try rw [hC.out]
  go_cut [5, 6] from 9 to 18 (fun s5 s6 wx => s5 = .int .i64 (k : Int) ∧ s6 = .bool q ∧ Hid (Below W.heap.size W wx))
  case first =>
    refine wp_region_quiet_below (by kernel_rfl) (by kernel_rfl) ?_
    repeat (go_big_quiet_step (first | (go_at_call 52; with_reducible refine Calls.regrown_of (KF.out _ _))))
    refine wpQuiet_nil ?_
    intro _ hw'
    obtain ⟨⟨dq, osq⟩, hw''⟩ := hw'
    subst hw''
    go_wp2
    go_meet
    exact ⟨rfl, rfl, below_regrown W dq osq⟩
  case rest =>
    obtain ⟨U, hU⟩ : ∃ U, U = wc := ⟨_, rfl⟩
    subst hU
    obtain ⟨rfl, rfl, hbU⟩ := hcut
    clear C0 C1
    go_upto_region 3 with fail
    obtain ⟨W2, hW2⟩ := hide (U.alloc (.cells #[.string ⟨#[]⟩, .string ⟨#[]⟩, .int .i64 0] 25))
    obtain ⟨P, hP⟩ := hide U.heap.size
    have HbW2 : Hid (Below W.heap.size W W2) := by show Below _ _ _; rw [← hW2.out]; exact hbU.out.trans (((Below.refl _ _).alloc (Nat.le_refl _) _).mono hbU.out.size)
    have HB2 : Hid (W2.heap[B]? = some (.cells #[.slice ao n cap] 80 (0, 0))) := (HbW2.out.block _ (lt_of_block HBW.out)).trans HBW.out
    have HO2 : Hid (W2.ownsRow S 25 3 (.slice ao n cap) n (l.flatMap rowPair)) := by show World.ownsRow _ _ _ _ _ _ _; have h := own_below HoW.out HbW2.out; rw [hn.out] at h; exact h
    have HC2 : Hid (W2.heap[C]? = some (.cells (rowCmd c).toArray 37 (0, 0))) := (HbW2.out.block _ (lt_of_block HCW.out)).trans HCW.out
    have HR2 : Hid (W2.heap[R]? = some (.cells zeroRes.toArray 56 (0, 0))) := (HbW2.out.block _ (lt_of_block HRW.out)).trans HRW.out
    have HP2 : Hid (W2.heap[P]? = some (.cells (rowPair zeroP).toArray 25 (0, 0))) := by show _ = _; rw [← hW2.out, ← hP.out]; exact hp_at _ _ rfl
    have HPu : Hid (W.heap.size ≤ P) := by show _ ≤ _; rw [← hP.out]; exact hbU.out.size
    have HB0 : Hid (Below w.heap.size w W2) := HbW.out.trans (HbW2.out.mono HbW.out.size)
    have HCl : Hid (w.heap.size ≤ C) := by show _ ≤ _; rw [hC.out]; exact Nat.le_refl _
    have HRl : Hid (w.heap.size ≤ R) := by show _ ≤ _; rw [← hR.out]; omega
    have HPl : Hid (w.heap.size ≤ P) := Nat.le_trans HbW.out.size HPu.out
    rw [hW2.out, hP.out]
    go_upto_if 19 with fail
    go_cut [] from 20 to 26 (fun wx => Hid (DoAt w wx S B C R P (.slice ao n cap) l c))
    case first =>
      cases q
      · have hold : oldK l c.key = zeroP := oldK_no hq.out
        have HD : Hid (DoAt w W2 S B C R P (.slice ao n cap) l c) := ⟨HB2.out, by show World.ownsRow _ _ _ _ _ _ _; rw [hn.out]; exact HO2.out, HC2.out, HR2.out, by rw [hold]; exact HP2.out, HB0.out, HCl.out, HRl.out, HPl.out⟩
        clear hold
        go_wp2_with fail
        go_meet
        exact HD
      · obtain ⟨hkl, hkey⟩ := isK_at hq.out
        have hold : oldK l c.key = l[place l c.key] := by unfold oldK; rw [if_pos hq.out, List.getD_eq_getElem?_getD, List.getElem?_eq_getElem hkl]; rfl
        simp only [hkq.out] at hkl hold hkey
        have hkn : k < n := by rw [← hn.out]; exact hkl
        obtain ⟨g, rfl⟩ : ∃ g, ao = some ⟨g, 0, none⟩ := by
          rcases HO2.out.2 with ⟨hv, h0⟩ | ⟨g, c, cur, hv, _⟩
          · omega
          · injection hv with e1; exact ⟨g, e1⟩
        obtain ⟨p0, p1, p2⟩ := own_pair HO2.out hkl
        obtain ⟨y, hy⟩ := hide l[k]
        rw [hy.out] at p0 p1 p2 hold
        have c0 := cell_n HB2.out 0 (v := .slice (some ⟨g, 0, none⟩) n cap) rfl
        have z0 := cell_n HP2.out 0 (v := .string ⟨#[]⟩) rfl
        have z1 := cell_n HP2.out 1 (v := .string ⟨#[]⟩) rfl
        have z2 := cell_n HP2.out 2 (v := .int .i64 0) rfl
        have f0 := free_n HP2.out 0
        have f1 := free_n HP2.out 1
        have f2 := free_n HP2.out 2
        have hki : (k : Int) < (n : Int) := by omega
        have HD : Hid (DoAt w (setAll W2 P (rowPair y)) S B C R P (.slice (some ⟨g, 0, none⟩) n cap) l c) := by
          have hlt1 := lt_of_block HBW.out
          have hpb : P ≠ B := fun e => by have := HPu.out; omega
          have hpc : P ≠ C := fun e => by have := HPu.out; have := lt_of_block HCW.out; omega
          have hpr : P ≠ R := fun e => by have := HPu.out; have := lt_of_block HRW.out; omega
          refine ⟨setAll_other HB2.out hpb _, ?_, setAll_other HC2.out hpc _, setAll_other HR2.out hpr _, by rw [hold]; exact setAll_at (xs := rowPair zeroP) HP2.out _ rfl, setAll_below HB0.out HPl.out _, HCl.out, HRl.out, HPl.out⟩
          show World.ownsRow _ _ _ _ _ _ _
          rw [hn.out]
          refine own_chg HO2.out (setFrom_chg P _ W2 0) (fun j hj e => ?_)
          have e1 : g = j := by simpa [Value.ownBlock] using hj
          have e2 : j = P := e
          have := (HoW.out.lt g (by simp [Value.ownBlock])).2
          have := HPu.out
          omega
        clear hold hkey
        go_wp2_with fail
        go_meet
        exact HD
    case rest =>
      obtain ⟨V, hV⟩ : ∃ V, V = wc := ⟨_, rfl⟩
      subst hV
      have HD := hcut
      clear hcut
      have hgR : (Value.slice ao n cap).ownBlock ≠ some R := own_blk_ne (HD.out.oo) HD.out.rr (by decide)
      have hSV : S ≤ V.heap.size := Nat.le_trans HS.out HD.out.bel.size
      have k0 := cell_n HD.out.cc 0 (v := .int .i64 c.kind) rfl
      have k1 := cell_n HD.out.cc 1 (v := str c.key) rfl
      have k2 := cell_n HD.out.cc 2 (v := str c.val) rfl
      have hRB : Hid (R ≠ B) := blk_ne HD.out.rr HD.out.bb (by decide)
      have HgR := Lib.hid hgR
      clear hgR
      have t1 : (c.kind == 1) = false := by rw [Hkind.out]; rfl
      have t5 : (c.kind == 5) = false := by rw [Hkind.out]; rfl
      have t4 : (c.kind == 4) = false := by rw [Hkind.out]; rfl
      have t6 : (c.kind == 6) = false := by rw [Hkind.out]; rfl
      have t3 : (c.kind == 3) = true := by rw [Hkind.out]; rfl
      have hd0 : doK l c = (if isK l c.key = false then (l, ⟨2, [], 0, []⟩) else (l.eraseIdx k, ⟨1, [], (oldK l c.key).ver, []⟩)) := by
        unfold doK
        rw [if_neg (by rw [Hkind.out]; decide), if_neg (by rw [Hkind.out]; decide), if_neg (by rw [Hkind.out]; decide), if_neg (by rw [Hkind.out]; decide), if_pos Hkind.out, hkq.out]
      rw [hq.out] at hd0
      cases q
      · have hd : doK l c = (l, ⟨2, [], 0, []⟩) := hd0.trans (if_pos rfl)
        clear hd0
        have HE : Hid (post (.returned (vResK 2 [] 0 (.slice none 0 0))) (setAll V R (rowRes 2 [] 0 (.slice none 0 0)))) := by show post _ _; rw [← HP0.out]; exact HD.out.same Hlt.out hd rfl rfl (fun g hg e => HgR.out (by rw [← e]; exact hg))
        have HER : Hid ((setAll V R (rowRes 2 [] 0 (.slice none 0 0))).heap[R]? = some (.cells (rowRes 2 [] 0 (.slice none 0 0)).toArray 56 (0, 0))) := setAll_at (xs := zeroRes) HD.out.rr _ rfl
        obtain ⟨r0, r1, r2, r3⟩ := four_cellsK HD.out.rr
        obtain ⟨f0, f1, f2, f3⟩ := four_freeK HD.out.rr
        clear hd
        go_wp2_with fail
        change bodyPost _ _ _ Exit.ret _ (setAll V R (rowRes 2 [] 0 (.slice none 0 0)))
        generalize setAll V R (rowRes 2 [] 0 (.slice none 0 0)) = W9 at HE HER ⊢
        clear r0 r1 r2 r3 f0 f1 f2 f3
        obtain ⟨r0, r1, r2, r3⟩ := four_cellsK HER.out
        refine bodyPost_ret (by simp [results, Tryd.results39, go_sem, r0, r1, r2, r3]; rfl) rfl ?_
        exact HE.out
      · have hd : doK l c = (l.eraseIdx k, ⟨1, [], (oldK l c.key).ver, []⟩) := hd0.trans (if_neg (by decide))
        clear hd0
        obtain ⟨hkl, _⟩ := isK_at hq.out
        rw [hkq.out] at hkl
        have hkn : k < n := by rw [← hn.out]; exact hkl
        have hn32 := Hk.out.n
        rw [hn.out] at hn32
        have HOV : Hid (V.ownsRow S 25 3 (.slice ao n cap) n (l.flatMap rowPair)) := by
          have h : V.ownsRow S 25 3 (.slice ao n cap) l.length (l.flatMap rowPair) := HD.out.oo
          rw [hn.out] at h
          exact h
        obtain ⟨g, rfl⟩ : ∃ g, ao = some ⟨g, 0, none⟩ := by
          rcases HOV.out.2 with ⟨hv, h0⟩ | ⟨g, c, cur, hv, _⟩
          · omega
          · injection hv with e1; exact ⟨g, e1⟩
        obtain ⟨yr, hyr⟩ := hide (oldK l c.key).ver
        have p2 : V.cell? ⟨P, 2, none⟩ = some (.int .i64 yr) := by rw [← hyr.out]; exact cell_n HD.out.pp 2 rfl
        rw [hyr.out] at hd
        have Hd := Lib.hid hd
        have KD := Lib.hid (delete_law S g n cap k l V HOV.out hn.out.symm hkn hSV (by omega))
        have c0 := cell_n HD.out.bb 0 (v := .slice (some ⟨g, 0, none⟩) n cap) rfl
        have hwr : IntKind.i64.wrap ((k : Int) + 1) = (k : Int) + 1 := IntWalk.i64_in _ (by omega)
        clear hd
        go_wp2_with fail
        refine KD.out.mono ?_
        rintro e V1 ⟨v1, rfl, ho1, hgr1, hob1⟩
        obtain ⟨a1, c1, rfl⟩ := owns_slice ho1
        have hob : (Value.slice (some ⟨g, 0, none⟩) n cap).ownBlock = some g := by simp [Value.ownBlock]
        have hc1 : Chg (Zone B (.slice (some ⟨g, 0, none⟩) n cap)) V V1 := Chg.grown hgr1 (fun j e => Or.inr (by rw [hob]; exact e))
        have hgB : g ≠ B := fun e => own_blk_ne HOV.out HD.out.bb (by decide) (by rw [← e]; exact hob)
        have hgR : g ≠ R := fun e => own_blk_ne HOV.out HD.out.rr (by decide) (by rw [← e]; exact hob)
        have hgP : g ≠ P := fun e => by have h1 := (HoW.out.lt g (by simp [Value.ownBlock])).2; have := HPu.out; omega
        have HB1 : V1.heap[B]? = some (.cells #[.slice (some ⟨g, 0, none⟩) n cap] 80 (0, 0)) := (hgr1.block B (lt_of_block HD.out.bb) (fun e => hgB (by injection e with e; exact e.symm))).trans HD.out.bb
        have HR1 : V1.heap[R]? = some (.cells zeroRes.toArray 56 (0, 0)) := (hgr1.block R (lt_of_block HD.out.rr) (fun e => hgR (by injection e with e; exact e.symm))).trans HD.out.rr
        have HP1 : V1.heap[P]? = some (.cells (rowPair (oldK l c.key)).toArray 25 (0, 0)) := (hgr1.block P (lt_of_block HD.out.pp) (fun e => hgP (by injection e with e; exact e.symm))).trans HD.out.pp
        obtain ⟨m, hm⟩ := hide (l.eraseIdx k).length
        rw [hm.out]
        obtain ⟨V2, hV2⟩ := hide (V1.setCell ⟨B, 0, none⟩ (.slice a1 m c1))
        have hcB : Chg (fun j => j = B) V1 (V1.setCell ⟨B, 0, none⟩ (.slice a1 m c1)) := Chg.setCell (F := fun j => j = B) (a := ⟨B, 0, none⟩) V1 rfl _
        have HO1 : OwnP S V1 (.slice a1 (l.eraseIdx k).length c1) (l.eraseIdx k) := ho1
        have hob1' : (Value.slice a1 (l.eraseIdx k).length c1).ownBlock = some g := hob1
        have HB2 : Hid (V2.heap[B]? = some (.cells #[.slice a1 m c1] 80 (0, 0))) := by show _ = _; rw [← hV2.out, heap_setCell, if_pos rfl, HB1]; rfl
        have HR2 : Hid (V2.heap[R]? = some (.cells zeroRes.toArray 56 (0, 0))) := by show _ = _; rw [← hV2.out]; exact hp_set_other HR1 (fun e => hRB.out e.symm)
        have HPB : Hid (P ≠ B) := fun e => by have h1 := lt_of_block HBW.out; have := HPu.out; omega
        have HP2' : Hid (V2.heap[P]? = some (.cells (rowPair (oldK l c.key)).toArray 25 (0, 0))) := by show _ = _; rw [← hV2.out]; exact hp_set_other HP1 (fun e => HPB.out e.symm)
        have HO2' : Hid (OwnP S V2 (.slice a1 (l.eraseIdx k).length c1) (l.eraseIdx k)) := by
          show World.ownsRow _ _ _ _ _ _ _
          rw [← hV2.out]
          refine own_chg HO1 hcB (fun j hj e => ?_)
          rw [hob1'] at hj
          injection hj with hj
          have e' : j = B := e
          omega
        have HC2' : Hid (Chg (Zone B (.slice (some ⟨g, 0, none⟩) n cap)) V V2) := by show Chg _ _ _; rw [← hV2.out]; exact hc1.trans (hcB.mono (fun j _ h => Or.inl h))
        have HE : Hid (post (.returned (vResK 1 [] yr (.slice none 0 0))) (setAll V2 R (rowRes 1 [] yr (.slice none 0 0)))) := by
          show post _ _
          rw [← HP0.out]
          refine HD.out.move Hlt.out Hd.out (v' := .slice a1 m c1) HB2.out ?_ HC2'.out (fun j hj => Or.inl ?_) HR2.out rfl rfl
          · rw [← hm.out]; exact HO2'.out
          · rw [← hm.out, hob1'] at hj; rw [hob]; exact hj
        have HER : Hid ((setAll V2 R (rowRes 1 [] yr (.slice none 0 0))).heap[R]? = some (.cells (rowRes 1 [] yr (.slice none 0 0)).toArray 56 (0, 0))) := setAll_at (xs := zeroRes) HR2.out _ rfl
        clear c0 p2
        have c0 := cell_n HB1 0 (v := .slice (some ⟨g, 0, none⟩) n cap) rfl
        have f0 := free_n HB1 0
        clear ho1 hgr1 hob1 hob hc1 hgB hgR hgP HB1 HR1 HP1 hcB HO1 hob1'
        dsimp only
        go_upto_region 26 with fail
        rw [hV2.out]
        clear c0 f0
        have p2 : V2.cell? ⟨P, 2, none⟩ = some (.int .i64 yr) := by rw [← hyr.out]; exact cell_n HP2'.out 2 rfl
        obtain ⟨r0, r1, r2, r3⟩ := four_cellsK HR2.out
        obtain ⟨f0, f1, f2, f3⟩ := four_freeK HR2.out
        go_wp2_with fail
        change bodyPost _ _ _ Exit.ret _ (setAll V2 R (rowRes 1 [] yr (.slice none 0 0)))
        generalize setAll V2 R (rowRes 1 [] yr (.slice none 0 0)) = W9 at HE HER ⊢
        clear r0 r1 r2 r3 f0 f1 f2 f3 p2
        obtain ⟨r0, r1, r2, r3⟩ := four_cellsK HER.out
        refine bodyPost_ret (by simp [results, Tryd.results39, go_sem, r0, r1, r2, r3]; rfl) rfl ?_
        exact HE.out

end Go.Proofs.YtnmlkoidmacinaaDoor
