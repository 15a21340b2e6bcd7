/-
  The map's state: what List does.
-/
import Derived.Test.YtnmlkoidmacinaaDoorKh
import Derived.Test.YtnmlkoidmacinaaDoorKl
namespace Go.Proofs.YtnmlkoidmacinaaDoor
open Go.RowKit Wm Mm Dg Kv
set_option linter.unusedVariables false
set_option linter.unusedSimpArgs false

theorem info_text : (Tryd.prog.info? 9).map (fun i => (i.zero, i.size, i.bytes)) = some (some (.string ByteArray.empty), 1, 16) := by kernel_rfl
theorem rowText_one (b : List UInt8) : ∀ u ∈ rowText b, u.oneCell' = true := by intro u hu; simp at hu; subst hu; rfl
/-- where things stand at a round of List -/
structure ListAt (V W : World) (L m : Nat) (a : Option Addr) (c : Nat) (ks : List (List UInt8)) : Prop where
  bel : Below V.heap.size V W
  res : W.heap[L]? = some (.cells (rowRes 1 [] 0 (.slice a m c)).toArray 56 (0, 0))
  own : W.ownsRow V.heap.size 9 1 (.slice a m c) m (ks.flatMap rowText)
  hL : V.heap.size ≤ L
theorem ListAt.below {V W W' : World} {L m : Nat} {a : Option Addr} {c : Nat} {ks : List (List UInt8)} (h : ListAt V W L m a c ks) (hb : Below W.heap.size W W') : ListAt V W' L m a c ks :=
  ⟨h.bel.trans (hb.mono h.bel.size), (hb.block _ (lt_of_block h.res)).trans h.res, own_below h.own hb, h.hL⟩
theorem ListAt.push {V W w9 : World} {L m : Nat} {a : Option Addr} {c : Nat} {ks : List (List UInt8)} (h : ListAt V W L m a c ks) {x : List UInt8} {a9 : Option Addr} {k9 : Nat}
    (hg : (W.drew.alloc (.cells #[str x] 9)).grownBy w9 (Value.slice a m c).ownBlock) (ho : w9.ownsRow V.heap.size 9 1 (.slice a9 (m + 1) k9) (m + 1) (ks.flatMap rowText ++ [str x])) :
    w9.heap[L]? = some (.cells (rowRes 1 [] 0 (.slice a m c)).toArray 56 (0, 0)) ∧ ListAt V (w9.setCell ⟨L, 3, none⟩ (.slice a9 (m + 1) k9)) L (m + 1) a9 k9 (ks ++ [x]) := by
  have hLlt := lt_of_block h.res
  have hne : some L ≠ (Value.slice a m c).ownBlock := fun e => own_blk_ne h.own h.res (by decide) e.symm
  have h9 : w9.heap[L]? = some (.cells (rowRes 1 [] 0 (.slice a m c)).toArray 56 (0, 0)) := by
    rw [hg.block L (by simp; omega) hne, hp_past _ _ (by show L ≠ W.heap.size; omega)]
    exact h.res
  have hb1 : Below V.heap.size W (W.drew.alloc (.cells #[str x] 9)) := (Below.refl _ _).drew.alloc h.bel.size _
  have hb2 : Below V.heap.size W w9 := hb1.trans (below_own (h.own.drew.alloc _) hg (Nat.le_refl _) (Nat.le_trans h.bel.size (by simp)))
  refine ⟨h9, h.bel.trans (hb2.setCell (by exact h.hL) _), ?_, ?_, h.hL⟩
  · rw [heap_setCell, if_pos rfl, h9]
    rfl
  · rw [List.flatMap_append]
    refine own_chg (F := fun j => j = L) ho (Chg.setCell (F := fun j => j = L) (a := ⟨L, 3, none⟩) w9 rfl _) (fun g hg e => ?_)
    have e' : g = L := e
    exact own_blk_ne ho h9 (by decide) (by rw [← e']; exact hg)
/-- the end of List -/
theorem DoAt.list {w V W : World} {S B C R P L m : Nat} {v : Value} {l : List PairP} {c : CmdP} {a : Option Addr} {k : Nat} {ks : List (List UInt8)} (h : DoAt w V S B C R P v l c) (hBlt : B < w.heap.size) (hd : doK l c = (l, ⟨1, [], 0, ks⟩)) (hl : ListAt V W L m a k ks) (hm : m = ks.length) {e : Ending} {w' : World} (he : e = .returned (vResK 1 [] 0 (.slice a m k))) (hw : w' = setAll W R (rowRes 1 [] 0 (.slice a m k))) :
    ∃ v' kv, e = .returned (vResK (doK l c).2.kind (doK l c).2.val (doK l c).2.ver kv) ∧ w'.heap[B]? = some (.cells #[v'] 80 (0, 0)) ∧ OwnP S w' v' (doK l c).1 ∧ w'.ownsRow w.heap.size 9 1 kv (doK l c).2.keys.length ((doK l c).2.keys.flatMap rowText) ∧ Chg (Zone B v) w w' ∧ (∀ g, v'.ownBlock = some g → v.ownBlock = some g ∨ w.heap.size ≤ g) := by
  subst hw
  rw [hd]
  have hcR := setFrom_chg R (rowRes 1 [] 0 (.slice a m k)) W 0
  have hs := h.bel.size
  have hO : OwnP S W v l := own_below h.oo hl.bel
  have hRW : W.heap[R]? = some (.cells zeroRes.toArray 56 (0, 0)) := (hl.bel.block _ (lt_of_block h.rr)).trans h.rr
  have hBW : W.heap[B]? = some (.cells #[v] 80 (0, 0)) := (hl.bel.block _ (lt_of_block h.bb)).trans h.bb
  have hb : Below w.heap.size w (setAll W R (rowRes 1 [] 0 (.slice a m k))) := setAll_below (h.bel.trans (hl.bel.mono hs)) h.hr _
  refine ⟨v, .slice a m k, he, setAll_other hBW (fun e => by have := h.hr; omega) _, own_chg hO hcR (fun g h1 h2 => ?_), ?_, Chg.fresh _ hb, fun g h1 => Or.inl h1⟩
  · have e' : g = R := h2
    exact own_blk_ne hO hRW (by decide) (by rw [← e']; exact h1)
  · rw [← hm]
    refine own_chg (own_base hl.own hs) hcR (fun g h1 h2 => ?_)
    have e' : g = R := h2
    exact own_blk_ne hl.own hRW (by decide) (by rw [← e']; exact h1)

set_option maxHeartbeats 4000000 in
set_option maxRecDepth 100000 in
theorem do_list (S B : Nat) (c : CmdP) (v : Value) (l : List PairP) (w : World) (hB : w.heap[B]? = some (.cells #[v] 80 (0, 0))) (ho : OwnP S w v l) (hk : OkPs l) (hS : S ≤ w.heap.size) (hkind : c.kind = 6) (hiff : 0 ≤ c.iff) :
    Calls Tryd.prog 39 #[.pointer (some ⟨B, 0, none⟩), vCmd c.kind c.key c.val c.iff] w fun e w' => ∃ v' kv, e = .returned (vResK (doK l c).2.kind (doK l c).2.val (doK l c).2.ver kv) ∧ w'.heap[B]? = some (.cells #[v'] 80 (0, 0)) ∧ OwnP S w' v' (doK l c).1 ∧ w'.ownsRow w.heap.size 9 1 kv (doK l c).2.keys.length ((doK l c).2.keys.flatMap rowText) ∧ Chg (Zone B v) w w' ∧ (∀ g, v'.ownBlock = some g → v.ownBlock = some g ∨ w.heap.size ≤ g) := by
  obtain ⟨post, HP⟩ := hide (fun (e : Ending) (w' : World) => ∃ v' kv, e = .returned (vResK (doK l c).2.kind (doK l c).2.val (doK l c).2.ver kv) ∧ w'.heap[B]? = some (.cells #[v'] 80 (0, 0)) ∧ OwnP S w' v' (doK l c).1 ∧ w'.ownsRow w.heap.size 9 1 kv (doK l c).2.keys.length ((doK l c).2.keys.flatMap rowText) ∧ Chg (Zone B v) w w' ∧ (∀ g, v'.ownBlock = some g → v.ownBlock = some g ∨ w.heap.size ≤ g))
  rw [HP.out]
  obtain ⟨ao, cap, rfl⟩ := owns_slice ho
  obtain ⟨C, hC⟩ := hide w.heap.size
  obtain ⟨W, hW⟩ := hide ((w.alloc (.cells (rowCmd c).toArray 37)).alloc (.cells zeroRes.toArray 56))
  obtain ⟨R, hR⟩ := hide (w.heap.size + 1)
  have HbW : Hid (Below w.heap.size w W) := by show Below _ _ _; rw [← hW.out]; exact ((Below.refl _ _).alloc (Nat.le_refl _) _).alloc (by simp) _
  have HCW : Hid (W.heap[C]? = some (.cells (rowCmd c).toArray 37 (0, 0))) := by show _ = _; rw [← hW.out, ← hC.out]; exact (hp_past _ _ (by simp)).trans (hp_at _ _ rfl)
  have HRW : Hid (W.heap[R]? = some (.cells zeroRes.toArray 56 (0, 0))) := by show _ = _; rw [← hW.out, ← hR.out]; exact hp_at _ _ (by simp)
  have HBW : Hid (W.heap[B]? = some (.cells #[.slice ao l.length cap] 80 (0, 0))) := by show _ = _; rw [HbW.out.block B (lt_of_block hB)]; exact hB
  have HoW : Hid (OwnP S W (.slice ao l.length cap) l) := own_below ho HbW.out
  have KF : Hid (∀ (dd : Nat) (os : Array Obj), Calls Tryd.prog 52 #[.slice ao l.length cap, str c.key] (Sort.grow (redrawn W dd) os) fun e w'' => e = .returned (.tuple #[.int .i64 (place l c.key : Int), .bool (isK l c.key)]) ∧ Below (Sort.grow (redrawn W dd) os).heap.size (Sort.grow (redrawn W dd) os) w'') := fun dd os => find_law c.key _ l _ _ (OwnP.prs (own_below HoW.out (below_regrown W dd os))) hk
  obtain ⟨k, hkq⟩ := hide (place l c.key)
  obtain ⟨q, hq⟩ := hide (isK l c.key)
  obtain ⟨n, hn⟩ := hide l.length
  have HP0 := HP
  rw [hn.out] at HP0
  have HS := Lib.hid hS
  have Hk := Lib.hid hk
  have Hlt := Lib.hid (lt_of_block hB)
  have Hkind := Lib.hid hkind
  have Hiff := Lib.hid hiff
  clear hkind hB ho hk hS hiff
  rw [hn.out] at HBW KF
  rw [hkq.out, hq.out] at KF
  have C0 := fun (dd : Nat) (os : Array Obj) => cell_regrown (cell_n HBW.out 0 (v := .slice ao n cap) rfl) dd os
  have C1 := fun (dd : Nat) (os : Array Obj) => cell_regrown (cell_n HCW.out 1 (v := str c.key) rfl) dd os
  go_enter Tryd.func39, Tryd.ntmps39
  go_upto_region 1 with fail
  rw [hW.out]
  try rw [hR.out]
  try rw [hC.out]
  go_cut [5, 6] from 9 to 18 (fun s5 s6 wx => s5 = .int .i64 (k : Int) ∧ s6 = .bool q ∧ Hid (Below W.heap.size W wx))
  case first =>
    refine wp_region_quiet_below (by kernel_rfl) (by kernel_rfl) ?_
    repeat (go_big_quiet_step (first | (go_at_call 52; with_reducible refine Calls.regrown_of (KF.out _ _))))
    refine wpQuiet_nil ?_
    intro _ hw'
    obtain ⟨⟨dq, osq⟩, hw''⟩ := hw'
    subst hw''
    go_wp2
    go_meet
    exact ⟨rfl, rfl, below_regrown W dq osq⟩
  case rest =>
    obtain ⟨U, hU⟩ : ∃ U, U = wc := ⟨_, rfl⟩
    subst hU
    obtain ⟨rfl, rfl, hbU⟩ := hcut
    clear C0 C1
    go_upto_region 3 with fail
    obtain ⟨W2, hW2⟩ := hide (U.alloc (.cells #[.string ⟨#[]⟩, .string ⟨#[]⟩, .int .i64 0] 25))
    obtain ⟨P, hP⟩ := hide U.heap.size
    have HbW2 : Hid (Below W.heap.size W W2) := by show Below _ _ _; rw [← hW2.out]; exact hbU.out.trans (((Below.refl _ _).alloc (Nat.le_refl _) _).mono hbU.out.size)
    have HB2 : Hid (W2.heap[B]? = some (.cells #[.slice ao n cap] 80 (0, 0))) := (HbW2.out.block _ (lt_of_block HBW.out)).trans HBW.out
    have HO2 : Hid (W2.ownsRow S 25 3 (.slice ao n cap) n (l.flatMap rowPair)) := by show World.ownsRow _ _ _ _ _ _ _; have h := own_below HoW.out HbW2.out; rw [hn.out] at h; exact h
    have HC2 : Hid (W2.heap[C]? = some (.cells (rowCmd c).toArray 37 (0, 0))) := (HbW2.out.block _ (lt_of_block HCW.out)).trans HCW.out
    have HR2 : Hid (W2.heap[R]? = some (.cells zeroRes.toArray 56 (0, 0))) := (HbW2.out.block _ (lt_of_block HRW.out)).trans HRW.out
    have HP2 : Hid (W2.heap[P]? = some (.cells (rowPair zeroP).toArray 25 (0, 0))) := by show _ = _; rw [← hW2.out, ← hP.out]; exact hp_at _ _ rfl
    have HPu : Hid (W.heap.size ≤ P) := by show _ ≤ _; rw [← hP.out]; exact hbU.out.size
    have HB0 : Hid (Below w.heap.size w W2) := HbW.out.trans (HbW2.out.mono HbW.out.size)
    have HCl : Hid (w.heap.size ≤ C) := by show _ ≤ _; rw [hC.out]; exact Nat.le_refl _
    have HRl : Hid (w.heap.size ≤ R) := by show _ ≤ _; rw [← hR.out]; omega
    have HPl : Hid (w.heap.size ≤ P) := Nat.le_trans HbW.out.size HPu.out
    rw [hW2.out, hP.out]
    go_upto_if 19 with fail
    go_cut [] from 20 to 26 (fun wx => Hid (DoAt w wx S B C R P (.slice ao n cap) l c))
    case first =>
      cases q
      · have hold : oldK l c.key = zeroP := oldK_no hq.out
        have HD : Hid (DoAt w W2 S B C R P (.slice ao n cap) l c) := ⟨HB2.out, by show World.ownsRow _ _ _ _ _ _ _; rw [hn.out]; exact HO2.out, HC2.out, HR2.out, by rw [hold]; exact HP2.out, HB0.out, HCl.out, HRl.out, HPl.out⟩
        clear hold
        go_wp2_with fail
        go_meet
        exact HD
      · obtain ⟨hkl, hkey⟩ := isK_at hq.out
        have hold : oldK l c.key = l[place l c.key] := by unfold oldK; rw [if_pos hq.out, List.getD_eq_getElem?_getD, List.getElem?_eq_getElem hkl]; rfl
        simp only [hkq.out] at hkl hold hkey
        have hkn : k < n := by rw [← hn.out]; exact hkl
        obtain ⟨g, rfl⟩ : ∃ g, ao = some ⟨g, 0, none⟩ := by
          rcases HO2.out.2 with ⟨hv, h0⟩ | ⟨g, c, cur, hv, _⟩
          · omega
          · injection hv with e1; exact ⟨g, e1⟩
        obtain ⟨p0, p1, p2⟩ := own_pair HO2.out hkl
        obtain ⟨y, hy⟩ := hide l[k]
        rw [hy.out] at p0 p1 p2 hold
        have c0 := cell_n HB2.out 0 (v := .slice (some ⟨g, 0, none⟩) n cap) rfl
        have z0 := cell_n HP2.out 0 (v := .string ⟨#[]⟩) rfl
        have z1 := cell_n HP2.out 1 (v := .string ⟨#[]⟩) rfl
        have z2 := cell_n HP2.out 2 (v := .int .i64 0) rfl
        have f0 := free_n HP2.out 0
        have f1 := free_n HP2.out 1
        have f2 := free_n HP2.out 2
        have hki : (k : Int) < (n : Int) := by omega
        have HD : Hid (DoAt w (setAll W2 P (rowPair y)) S B C R P (.slice (some ⟨g, 0, none⟩) n cap) l c) := by
          have hlt1 := lt_of_block HBW.out
          have hpb : P ≠ B := fun e => by have := HPu.out; omega
          have hpc : P ≠ C := fun e => by have := HPu.out; have := lt_of_block HCW.out; omega
          have hpr : P ≠ R := fun e => by have := HPu.out; have := lt_of_block HRW.out; omega
          refine ⟨setAll_other HB2.out hpb _, ?_, setAll_other HC2.out hpc _, setAll_other HR2.out hpr _, by rw [hold]; exact setAll_at (xs := rowPair zeroP) HP2.out _ rfl, setAll_below HB0.out HPl.out _, HCl.out, HRl.out, HPl.out⟩
          show World.ownsRow _ _ _ _ _ _ _
          rw [hn.out]
          refine own_chg HO2.out (setFrom_chg P _ W2 0) (fun j hj e => ?_)
          have e1 : g = j := by simpa [Value.ownBlock] using hj
          have e2 : j = P := e
          have := (HoW.out.lt g (by simp [Value.ownBlock])).2
          have := HPu.out
          omega
        clear hold hkey
        go_wp2_with fail
        go_meet
        exact HD
    case rest =>
      obtain ⟨V, hV⟩ : ∃ V, V = wc := ⟨_, rfl⟩
      subst hV
      have HD := hcut
      clear hcut
      have hgR : (Value.slice ao n cap).ownBlock ≠ some R := own_blk_ne (HD.out.oo) HD.out.rr (by decide)
      have k0 := cell_n HD.out.cc 0 (v := .int .i64 c.kind) rfl
      have HgR := Lib.hid hgR
      clear hgR
      have t1 : (c.kind == 1) = false := by rw [Hkind.out]; rfl
      have t5 : (c.kind == 5) = false := by rw [Hkind.out]; rfl
      have t4 : (c.kind == 4) = false := by rw [Hkind.out]; rfl
      have t6 : (c.kind == 6) = true := by rw [Hkind.out]; rfl
      have hn32 := Hk.out.n
      rw [hn.out] at hn32
      have hkn : k ≤ n := by rw [← hkq.out, ← hn.out]; exact place_le _ _
      have hd : Hid (doK l c = (l, ⟨1, [], 0, keysK l c.key c.iff⟩)) := by
        show doK l c = _
        unfold doK
        rw [if_neg (by rw [Hkind.out]; decide), if_neg (by rw [Hkind.out]; decide), if_neg (by rw [Hkind.out]; decide), if_pos Hkind.out]
      obtain ⟨V1, hV1⟩ := hide (V.alloc (.cells (rowRes 1 [] 0 (.slice none 0 0)).toArray 56))
      obtain ⟨L, hL⟩ := hide V.heap.size
      have HLA : Hid (ListAt V V1 L 0 none 0 []) := by
        show ListAt _ _ _ _ _ _ _
        rw [← hV1.out, ← hL.out]
        exact ⟨(Below.refl _ _).alloc (Nat.le_refl _) _, hp_at _ _ rfl, World.ownsRow_nil _ _ _ _, Nat.le_refl _⟩
      obtain ⟨iff, hiff⟩ := hide c.iff
      have HI0 : Hid (0 ≤ iff) := by show _ ≤ _; rw [← hiff.out]; exact Hiff.out
      obtain ⟨ck, hck⟩ := hide c.key
      have HCW2 : Hid (∀ W, Below V.heap.size V W → W.heap[C]? = some (.cells #[.int .i64 c.kind, str ck, str c.val, .int .i64 iff] 37 (0, 0))) := fun W hb => by rw [hb.block _ (lt_of_block HD.out.cc), HD.out.cc, ← hiff.out, ← hck.out]
      have HBW2 : Hid (∀ W, Below V.heap.size V W → W.heap[B]? = some (.cells #[.slice ao n cap] 80 (0, 0))) := fun W hb => by rw [hb.block _ (lt_of_block HD.out.bb), HD.out.bb]
      have HOW2 : Hid (∀ W, Below V.heap.size V W → W.ownsRow S 25 3 (.slice ao n cap) n (l.flatMap rowPair)) := fun W hb => by
        have h : V.ownsRow S 25 3 (.slice ao n cap) l.length (l.flatMap rowPair) := HD.out.oo
        rw [hn.out] at h
        exact own_below h hb
      have HV0 : Hid (∀ W, Below V.heap.size V W → Below V.heap.size V W.drew) := fun W hb => hb.drew
      go_wp2_with fail
      rw [hV1.out, hL.out]
      clear k0
      go_loopw [5] (fun s5 wr => ∃ q : Nat, ∃ a cc, s5 = .int .i64 q ∧ k ≤ q ∧ q ≤ n ∧ Hid (∀ i (hi : i < l.length), k ≤ i → i < q → pre ck l[i].key = true) ∧ Hid (iff = 0 ∨ ((q - k : Nat) : Int) ≤ iff) ∧ Hid (ListAt V wr L (q - k) a cc (((l.drop k).take (q - k)).map PairP.key))) (fun s5 _ => n - (intOf s5).toNat)
      case atStart => exact ⟨k, none, 0, rfl, Nat.le_refl _, hkn, fun i hi h1 h2 => by omega, by rw [Nat.sub_self]; exact Or.inr HI0.out, by rw [Nat.sub_self]; exact HLA⟩
      case round =>
        clear HLA hV1
        obtain ⟨q, a, cc, rfl, hkq2, hqn, hpre, hlim, hla⟩ := hrel
        obtain ⟨m, hm⟩ := hide (q - k)
        rw [hm.out] at hlim hla
        have Hm32 : Hid (m ≤ 32) := by show _ ≤ _; rw [← hm.out]; omega
        obtain ⟨ks, hks⟩ := hide (((l.drop k).take m).map PairP.key)
        rw [hks.out] at hla
        have HC1 := HCW2.out _ hla.out.bel
        have HB1 := HBW2.out _ hla.out.bel
        have c0 := cell_n HB1 0 (v := .slice ao n cap) rfl
        have d1 := cell_n HC1 1 (v := str ck) rfl
        have d3 := cell_n HC1 3 (v := .int .i64 iff) rfl
        have r3 := cell_n hla.out.res 3 (v := .slice a m cc) rfl
        clear HC1 HB1
        obtain ⟨e, he⟩ : ∃ e, Hid (e = (decide (q < n) && ((match l[q]? with | some y => pre ck y.key | none => false) && (decide (iff = 0) || decide ((m : Int) < iff))))) := ⟨_, rfl⟩
        go_upto_region 18 with fail
        go_cut [111] from 79 to 111 (fun s wx => s = .bool e ∧ Hid (Below wr.heap.size wr wx))
        case first =>
          by_cases hlt : q < n
          · have hql : q < l.length := by rw [hn.out]; exact hlt
            obtain ⟨g, rfl⟩ : ∃ g, ao = some ⟨g, 0, none⟩ := by
              rcases (HOW2.out _ hla.out.bel).2 with ⟨hv, h0⟩ | ⟨g, c, cur, hv, _⟩
              · omega
              · injection hv with e1; exact ⟨g, e1⟩
            obtain ⟨p0, _, _⟩ := own_pair (HOW2.out _ hla.out.bel) hql
            have he2 := he.out
            rw [List.getElem?_eq_getElem hql] at he2
            have Hkl : Hid (l[q].key.length ≤ 9223372036854775807) := by show _ ≤ _; have := (Hk.out.key _ (List.getElem_mem hql)).2; omega
            obtain ⟨y, hy⟩ := hide l[q].key
            rw [hy.out] at Hkl p0
            simp only [hy.out] at he2
            have KH := Lib.hid (fun (W : World) => (hasPrefix_law ck y W Hkl.out).mono fun _ _ h => (⟨h.1, h.2.symm⟩ : _ ∧ _))
            have hqi : (q : Int) < (n : Int) := by omega
            have tq : decide ((q : Int) < (n : Int)) = true := decide_eq_true hqi
            have tqn : decide (q < n) = true := decide_eq_true hlt
            rw [tqn, Bool.true_and] at he2
            clear tqn
            obtain ⟨b, hb⟩ : ∃ b, Hid (b = pre ck y) := ⟨_, rfl⟩
            rw [← hb.out] at he2
            have KH2 : Hid (∀ W, Calls Tryd.prog 54 #[str y, str ck] W fun e w' => e = .returned (.bool b) ∧ w' = W) := by rw [hb.out]; exact KH
            clear KH
            cases b
            · have he3 : e = false := he2
              clear he2 he
              subst he3
              go_quiet ((go_at_call 54; exact Calls.quiet_of_same (KH2.out _)))
              go_wp2_with fail
              go_meet
              exact ⟨rfl, below_drewN (Below.refl _ _) _⟩
            · rw [Bool.true_and] at he2
              by_cases h0 : iff = 0
              · have t0 : (iff == 0) = true := beq_iff_eq.2 h0
                have he3 : e = true := by rw [he2, decide_eq_true h0]; rfl
                clear he2 he h0
                subst he3
                go_quiet ((go_at_call 54; exact Calls.quiet_of_same (KH2.out _)))
                go_wp2_with fail
                go_meet
                exact ⟨rfl, below_drewN (Below.refl _ _) _⟩
              · have t0 : (iff == 0) = false := beq_eq_false_iff_ne.2 h0
                obtain ⟨b2, hb2⟩ : ∃ b, Hid (b = decide ((m : Int) < iff)) := ⟨_, rfl⟩
                have tm : decide ((m : Int) < iff) = b2 := hb2.out.symm
                have he3 : e = b2 := by rw [he2, decide_eq_false h0, hb2.out]; rfl
                clear he2 he h0
                clear hb2
                subst he3
                cases e
                all_goals
                  go_quiet ((go_at_call 54; exact Calls.quiet_of_same (KH2.out _)))
                  go_wp2_with fail
                  go_meet
                  exact ⟨rfl, below_drewN (Below.refl _ _) _⟩
          · have he3 : e = false := by rw [he.out, decide_eq_false hlt]; rfl
            have tq : decide ((q : Int) < (n : Int)) = false := decide_eq_false (by omega)
            clear he
            subst he3
            go_quiet (fail)
            go_wp2_with fail
            go_meet
            exact ⟨rfl, below_drewN (Below.refl _ _) _⟩
        case rest =>
          clear c0 d1 d3 r3
          obtain ⟨W, hW⟩ : ∃ W, W = wc := ⟨_, rfl⟩
          subst hW
          obtain ⟨rfl, hbW⟩ := hcut
          have HLA := Lib.hid (hla.out.below hbW.out)
          clear hla hbW
          cases e
          · have hstop : Hid (keysK l c.key c.iff = ks) := by
              show _ = _
              rw [hck.out, hiff.out, ← hks.out]
              have hplk : place l ck = k := by rw [← hck.out]; exact hkq.out
              rw [← hplk]
              have hmk : k + m = q := by rw [← hm.out]; omega
              refine keys_stop (by rw [hplk, hmk, hn.out]; exact hqn) (fun i hi him => ?_) hlim.out ?_
              · refine hpre.out _ hi (by omega) (by omega)
              · have hmk2 : place l ck + m = q := by rw [hplk]; exact hmk
                rw [hmk2]
                try simp only [hmk2]
                by_cases hlt : q < n
                · have hql : q < l.length := by rw [hn.out]; exact hlt
                  have he2 := he.out
                  rw [List.getElem?_eq_getElem hql, decide_eq_true hlt, Bool.true_and] at he2
                  cases hb : pre ck l[q].key
                  · exact Or.inr (Or.inl ⟨hql, hb⟩)
                  · simp only [hb, Bool.true_and] at he2
                    have he3 := he2.symm
                    rw [Bool.or_eq_false_iff] at he3
                    exact Or.inr (Or.inr ⟨of_decide_eq_false he3.1, by have := of_decide_eq_false he3.2; omega⟩)
                · exact Or.inl (by rw [hn.out]; omega)
            have hmlen : Hid (m = ks.length) := by show _ = _; rw [← hks.out, List.length_map, List.length_take, List.length_drop, hn.out, ← hm.out]; omega
            have Hd : Hid (doK l c = (l, ⟨1, [], 0, ks⟩)) := by show _ = _; rw [← hstop.out]; exact hd.out
            have HE : Hid (post (.returned (vResK 1 [] 0 (.slice a m cc))) (setAll W R (rowRes 1 [] 0 (.slice a m cc)))) := by show post _ _; rw [← HP0.out]; exact HD.out.list Hlt.out Hd.out HLA.out hmlen.out rfl rfl
            have HRR : W.heap[R]? = some (.cells zeroRes.toArray 56 (0, 0)) := (HLA.out.bel.block _ (lt_of_block HD.out.rr)).trans HD.out.rr
            have HER : Hid ((setAll W R (rowRes 1 [] 0 (.slice a m cc))).heap[R]? = some (.cells (rowRes 1 [] 0 (.slice a m cc)).toArray 56 (0, 0))) := setAll_at (xs := zeroRes) HRR _ rfl
            obtain ⟨l0, l1, l2, l3⟩ := four_cellsK HLA.out.res
            obtain ⟨f0, f1, f2, f3⟩ := four_freeK HRR
            have r0 := cell_n HRR 0 (v := .int .i64 0) rfl
            have r1 := cell_n HRR 1 (v := .string ⟨#[]⟩) rfl
            have r2 := cell_n HRR 2 (v := .int .i64 0) rfl
            have r3 := cell_n HRR 3 (v := .slice none 0 0) rfl
            clear HRR
            go_wp2_with fail
            change bodyPost _ _ _ Exit.ret _ (setAll W R (rowRes 1 [] 0 (.slice a m cc)))
            generalize setAll W R (rowRes 1 [] 0 (.slice a m cc)) = W9 at HE HER ⊢
            clear r0 r1 r2 r3 f0 f1 f2 f3 l0 l1 l2 l3
            obtain ⟨r0, r1, r2, r3⟩ := four_cellsK HER.out
            refine bodyPost_ret (by simp [results, Tryd.results39, go_sem, r0, r1, r2, r3]; rfl) rfl ?_
            exact HE.out
          · have he2 := he.out.symm
            rw [Bool.and_eq_true, Bool.and_eq_true, Bool.or_eq_true] at he2
            obtain ⟨h1, h2, h3⟩ := he2
            have hlt : q < n := of_decide_eq_true h1
            have hql : q < l.length := by rw [hn.out]; exact hlt
            rw [List.getElem?_eq_getElem hql] at h2
            have Hpre : Hid (∀ i (hi : i < l.length), k ≤ i → i < q + 1 → pre ck l[i].key = true) := fun i hi g1 g2 => by
              rcases Nat.lt_or_eq_of_le (Nat.le_of_lt_succ g2) with g3 | rfl
              · exact hpre.out i hi g1 g3
              · exact h2
            have hm1 : q + 1 - k = m + 1 := by rw [← hm.out]; omega
            have Hlim : Hid (iff = 0 ∨ ((q + 1 - k : Nat) : Int) ≤ iff) := by
              rcases h3 with h3 | h3
              · exact Or.inl (of_decide_eq_true h3)
              · refine Or.inr ?_
                have := of_decide_eq_true h3
                rw [hm1]
                omega
            have hks1 : Hid (((l.drop k).take (q + 1 - k)).map PairP.key = ks ++ [l[q].key]) := by
              show _ = _
              have hmd : m < (l.drop k).length := by rw [List.length_drop, ← hm.out]; omega
              have e1 : (l.drop k)[m]'hmd = l[q] := by rw [List.getElem_drop]; congr 1; rw [← hm.out]; omega
              rw [hm1, List.take_add_one, List.getElem?_eq_getElem hmd, List.map_append, hks.out, e1]
              rfl
            have Hm1 := Lib.hid hm1
            clear h1 h2 h3 hm1
            obtain ⟨g, rfl⟩ : ∃ g, ao = some ⟨g, 0, none⟩ := by
              rcases (HOW2.out _ HLA.out.bel).2 with ⟨hv, h0⟩ | ⟨g, c, cur, hv, _⟩
              · omega
              · injection hv with e1; exact ⟨g, e1⟩
            obtain ⟨p0, _, _⟩ := own_pair (HOW2.out _ HLA.out.bel) hql
            obtain ⟨y, hy⟩ := hide l[q].key
            rw [hy.out] at p0 hks1
            have hqi : (q : Int) < (n : Int) := by omega
            have HB1 := HBW2.out _ HLA.out.bel
            have c0 := cell_n HB1 0 (v := .slice (some ⟨g, 0, none⟩) n cap) rfl
            have r3 := cell_n HLA.out.res 3 (v := .slice a m cc) rfl
            have g3 := free_n HLA.out.res 3
            have HLl := lt_of_block HLA.out.res
            have s3 : (W.alloc (.cells #[str y] 9)).cell? ⟨L, 3, none⟩ = some (.slice a m cc) := (World.cell?_of_block (hp_past W _ (by show L ≠ W.heap.size; omega))).trans r3
            have HoA : Hid ((W.drew.alloc (.cells #[str y] 9)).ownsRow V.heap.size 9 1 (.slice a m cc) m (ks.flatMap rowText)) := HLA.out.own.drew.alloc _
            have HsA : Hid (Src Tryd.prog 1 54 (.slice (some ⟨W.drew.heap.size, 0, none⟩) 1 1) 1 [str y] (W.drew.alloc (.cells #[str y] 9))) := src_new (w := W.drew) Tryd.underlying54 _ 1 rfl (rowText_one y)
            have HVs : Hid (V.heap.size ≤ (W.drew.alloc (.cells #[str y] 9)).heap.size) := by show _ ≤ _; have := HLA.out.bel.size; simp; omega
            clear HB1 HLl
            go_upto_region 20 with fail
            go_region_law (refine step_append_at (by rfl) _ _ 54 54 (by rfl) V.heap.size 9 _ 1 16 Tryd.underlying54 info_text rfl _ _ _ (by rfl) HoA.out _ 1 _ (by rfl) HsA.out (by have := Hm32.out; unfold maxLen; omega) (by have := Hm32.out; omega) HVs.out ?_; intro v9 w9 ho9 hg9 hb9; obtain ⟨a9, k9, rfl⟩ := owns_slice ho9; have HL9 := Lib.hid (HLA.out.push hg9 ho9); have d2 := cell_n HL9.out.1 3 (v := .slice a m cc) rfl; have g9 := free_n HL9.out.1 3; clear ho9 hg9 hb9)
            all_goals
              have HF := Lib.hid HL9.out.2
              clear d2 g9 s3 g3 r3 c0 p0
              go_wp2_with fail
              go_roundw
              case rel => exact ⟨q + 1, a9, k9, by go_num, by omega, by omega, Hpre, Hlim, by rw [hks1.out, Hm1.out]; exact HF.out⟩
              case measure => simp [intOf]; omega

end Go.Proofs.YtnmlkoidmacinaaDoor
