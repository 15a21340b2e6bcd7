/-
  Numbers of keys: both sides: a key's number in any pairs.
-/
import Derived.Test.YtnmlkoidmacinaaDoorTnh
import Derived.Test.YtnmlkoidmacinaaDoorKt
namespace Go.Proofs.YtnmlkoidmacinaaDoor
open Go.RowKit Wm Mm Tn Kv
set_option linter.unusedVariables false
set_option linter.unusedSimpArgs false

/-- what a map has at a key -/
def getP (l : List PairP) (k : List UInt8) : List UInt8 := (applyK l ⟨2, k, [], 0⟩).2.val
theorem getP_len (l : List PairP) (k : List UInt8) : (getP l k).length ≤ 1048576 := by
  unfold getP applyK
  cases h : isCommand 2 k [] 0 && pairsB l
  · rw [if_neg (by simp)]; exact Nat.zero_le _
  · rw [if_pos rfl]
    rw [Bool.and_eq_true] at h
    have ho := pairsB_ok h.2
    have hd : doK l ⟨2, k, [], 0⟩ = if isK l k = false then (l, ⟨2, [], 0, []⟩) else (l, ⟨1, (oldK l k).val, (oldK l k).ver, []⟩) := by
      unfold doK
      simp
    rw [hd]
    cases hk : isK l k
    · exact Nat.zero_le _
    · have := ho.val _ (oldK_at hk).1
      rw [if_neg (by simp)]
      show (oldK l k).val.length ≤ _
      omega
def numberP (l : List PairP) (key : List UInt8) : Int :=
  if (heldV (getP l (107 :: key))).2.1 = 0 then ((heldV (getP l (107 :: key))).1 : Int) else if getP l (116 :: Lib.decDigits (heldV (getP l (107 :: key))).2.1) = [100, 111, 110, 101] then ((heldV (getP l (107 :: key))).2.2 : Int) else ((heldV (getP l (107 :: key))).1 : Int)
def GetPost (w : World) (x : List UInt8) (e : Ending) (w' : World) : Prop := ∃ a n c kd vr ka kn kc, e = .returned (.tuple #[.slice a n c, vResK kd x vr (.slice ka kn kc)]) ∧ Below w.heap.size w w'
theorem get_law (v : Value) (l : List PairP) (F : Nat → Prop) (w : World) (h : Prs F w v l) (hn : l.length ≤ 3518437208800) (k : List UInt8) : Calls Tryd.prog 17 #[v, vCmd 2 k [] 0] w (GetPost w (getP l k)) :=
  (apply_law ⟨2, k, [], 0⟩ v l F w h hn).mono fun e w' ⟨av, kv, he, ho, hk, hb⟩ => by
    obtain ⟨a, c, rfl⟩ := owns_slice ho
    obtain ⟨ka, kc, rfl⟩ := owns_slice hk
    exact ⟨_, _, _, _, _, _, _, _, he, hb⟩
theorem getRef_law (v : Value) (l : List PairP) (F : Nat → Prop) (w : World) (h : Prs F w v l) (k : List UInt8) : Calls Tryd.prog 21 #[v, vCmd 2 k [] 0] w (GetPost w (getP l k)) :=
  (refApply_law ⟨2, k, [], 0⟩ v l F w h).mono fun e w' ⟨bv, kv, he, ho, hk, hb⟩ => by
    obtain ⟨ka, kc, rfl⟩ := owns_slice hk
    rcases ho with ⟨rfl, _⟩ | ho
    · obtain ⟨ao, cap, rfl, _, _⟩ := h.slice
      exact ⟨_, _, _, _, _, _, _, _, he, hb⟩
    · obtain ⟨a, c, rfl⟩ := owns_slice ho
      exact ⟨_, _, _, _, _, _, _, _, he, hb⟩
theorem data_law (key : List UInt8) (hk : key.length ≤ 1099511627776000) (w : World) : Calls Tryd.prog 18 #[str key] w fun e w' => e = .returned (str (107 :: key)) ∧ w = w' := by
  go_enter Tryd.func18, Tryd.ntmps18
  go_wp2_with fail
  go_ret
  exact ⟨by simp, rfl⟩
theorem record_law (n : Nat) (hn : n ≤ 999999999) (w : World) (hv : VarsOk w) : Calls Tryd.prog 20 #[.int .i64 (n : Int)] w fun e w' => e = .returned (str (116 :: Lib.decDigits n)) ∧ Below w.heap.size w w' := by
  have HI := Lib.hid (itoa_law (n : Int) (by omega) (by omega) w hv)
  rw [itoa_of] at HI
  have hl : (Lib.decDigits n).length ≤ 100 := by
    rw [Lib.decDigits_length]
    have := Lib.nDigits_le20 n (by omega)
    omega
  obtain ⟨u, hu⟩ := hide (Lib.decDigits n)
  rw [hu.out] at HI hl ⊢
  go_enter Tryd.func20, Tryd.ntmps20
  go_wp2_with fail
  refine HI.out.mono ?_
  rintro e w1 ⟨rfl, hb⟩
  have Hb := Lib.hid hb
  clear hb
  go_wp2_with fail
  go_ret
  exact ⟨by simp, Hb.out⟩
theorem heldV_le (s : List UInt8) : (heldV s).1 ≤ 999999999 ∧ (heldV s).2.1 ≤ 999999999 ∧ (heldV s).2.2 ≤ 999999999 := by
  unfold heldV
  split
  · split
    · rename_i h; exact ⟨amountB_le h, by simp, by simp⟩
    · simp
  · split
    · rename_i h1 h2 h3
      split
      · simp
      · exact ⟨amountB_le h1, Nat.le_trans (amountB_le h2) (by decide), amountB_le h3⟩
    · simp
  · simp
set_option maxHeartbeats 4000000 in
set_option maxRecDepth 100000 in
theorem numProg_law (v : Value) (l : List PairP) (F : Nat → Prop) (key : List UInt8) (w : World) (h : Prs F w v l) (hn : l.length ≤ 3518437208800) (hk : key.length ≤ 1099511627776000) (hv : VarsOk w) :
    Calls Tryd.prog 5 #[v, str key] w fun e w' => e = .returned (.int .i64 (numberP l key)) ∧ Below w.heap.size w w' := by
  obtain ⟨post, HP⟩ := hide (fun (e : Ending) (w' : World) => e = .returned (.int .i64 (numberP l key)) ∧ Below w.heap.size w w')
  rw [HP.out]
  obtain ⟨ao, cap, rfl, hcap, hmax⟩ := h.slice
  have HV : Hid (∀ w', Below w.heap.size w w' → VarsOk w') := fun w' hb => hv.below hb
  have HG : Hid (∀ k w1, Below w.heap.size w w1 → Calls Tryd.prog 17 #[.slice ao l.length cap, vCmd 2 k [] 0] w1 (GetPost w1 (getP l k))) := fun k w1 hb => get_law _ l (fun _ => True) w1 ((h.frame (Plain.good _) (Agree.below hb)).weak (Plain.good _) (fun _ _ _ => trivial)) hn k
  have HE : Hid (∀ (z : Int) w1, Below w.heap.size w w1 → z = numberP l key → post (.returned (.int .i64 z)) w1) := by
    show ∀ z w1, _ → _ → _
    intro z w1 h1 h2
    rw [← HP.out, h2]
    exact ⟨rfl, h1⟩
  obtain ⟨x, hx⟩ := hide (getP l (107 :: key))
  have HG1 : Hid (Calls Tryd.prog 17 #[.slice ao l.length cap, vCmd 2 (107 :: key) [] 0] w (GetPost w x)) := by
    have := HG.out (107 :: key) w (Below.refl _ _)
    rwa [hx.out] at this
  have hxl := getP_len l (107 :: key)
  have HN : Hid (numberP l key = if (heldV x).2.1 = 0 then ((heldV x).1 : Int) else if getP l (116 :: Lib.decDigits (heldV x).2.1) = [100, 111, 110, 101] then ((heldV x).2.2 : Int) else ((heldV x).1 : Int)) := by
    show _ = _
    unfold numberP
    rw [hx.out]
  rw [hx.out] at hxl
  have hle := heldV_le x
  have HRd : Hid (∀ w1, Below w.heap.size w w1 → Calls Tryd.prog 19 #[str x] w1 fun e w' => e = .returned (.agg #[.int .i64 ((heldV x).1 : Int), .int .i64 ((heldV x).2.1 : Int), .int .i64 ((heldV x).2.2 : Int)]) ∧ Below w1.heap.size w1 w') := fun w1 hb => read_law x hxl w1 (HV.out w1 hb)
  obtain ⟨n, hnn⟩ := hide (heldV x).1
  obtain ⟨b, hbb⟩ := hide (heldV x).2.1
  obtain ⟨t, htt⟩ := hide (heldV x).2.2
  rw [hnn.out, hbb.out, htt.out] at HRd HN
  rw [hbb.out] at hle
  have Hb9 : Hid (b ≤ 999999999) := hle.2.1
  obtain ⟨y, hy⟩ := hide (getP l (116 :: Lib.decDigits b))
  rw [hy.out] at HN
  have HG2 : Hid (∀ w1, Below w.heap.size w w1 → Calls Tryd.prog 17 #[.slice ao l.length cap, vCmd 2 (116 :: Lib.decDigits b) [] 0] w1 (GetPost w1 y)) := by
    show ∀ w1, _ → _
    intro w1 hb
    have := HG.out (116 :: Lib.decDigits b) w1 hb
    rwa [hy.out] at this
  have hdl : (Lib.decDigits b).length ≤ 100 := by
    rw [Lib.decDigits_length]
    have := Lib.nDigits_le20 b (by have := Hb9.out; omega)
    omega
  have HRc : Hid (∀ w1, Below w.heap.size w w1 → Calls Tryd.prog 20 #[.int .i64 (b : Int)] w1 fun e w' => e = .returned (str (116 :: Lib.decDigits b)) ∧ Below w1.heap.size w1 w') := fun w1 hb => record_law b Hb9.out w1 (HV.out w1 hb)
  obtain ⟨dd, hdd⟩ := hide (Lib.decDigits b)
  rw [hdd.out] at HG2 HRc hdl
  clear h hv hcap hmax hxl hle
  go_enter Tryd.func5, Tryd.ntmps5
  go_wp2_with fail
  refine (data_law key hk _).mono ?_
  rintro e w0 ⟨rfl, rfl⟩
  dsimp only
  go_wp2_with fail
  refine HG1.out.mono ?_
  rintro e w1 ⟨a1, n1, c1, kd1, vr1, ka1, kn1, kc1, rfl, hb1⟩
  have Hb1 := Lib.hid hb1
  clear hb1
  dsimp only
  have hb2 : Below w.heap.size w (w1.alloc (.cells #[.int .i64 kd1, str x, .int .i64 vr1, .slice ka1 kn1 kc1] 56)) := Hb1.out.alloc Hb1.out.size _
  have hp2 := hp_at w1 (.cells #[.int .i64 kd1, str x, .int .i64 vr1, .slice ka1 kn1 kc1] 56) (k := w1.heap.size) rfl
  go_upto_region 2 with fail
  obtain ⟨W2, hW2⟩ := hide (w1.alloc (.cells #[.int .i64 kd1, str x, .int .i64 vr1, .slice ka1 kn1 kc1] 56))
  obtain ⟨P, hP⟩ := hide w1.heap.size
  rw [hW2.out] at hb2 hp2
  rw [hP.out] at hp2
  rw [hW2.out, hP.out]
  have Hb2 := Lib.hid hb2
  have Hp2 := Lib.hid hp2
  clear hb2 hp2
  have d1 := cell_n Hp2.out 1 (v := str x) rfl
  go_wp2_with fail
  refine (HRd.out W2 Hb2.out).mono ?_
  rintro e w3 ⟨rfl, hb3⟩
  dsimp only
  have hb4 : Below W2.heap.size W2 (w3.alloc (.cells #[.int .i64 (n : Int), .int .i64 (b : Int), .int .i64 (t : Int)] 62)) := hb3.alloc hb3.size _
  have hp4 := hp_at w3 (.cells #[.int .i64 (n : Int), .int .i64 (b : Int), .int .i64 (t : Int)] 62) (k := w3.heap.size) rfl
  go_upto_region 3 with fail
  obtain ⟨W4, hW4⟩ := hide (w3.alloc (.cells #[.int .i64 (n : Int), .int .i64 (b : Int), .int .i64 (t : Int)] 62))
  obtain ⟨V, hV⟩ := hide w3.heap.size
  rw [hW4.out] at hb4 hp4
  rw [hV.out] at hp4
  rw [hW4.out, hV.out]
  have Hb4 : Hid (Below w.heap.size w W4) := Hb2.out.trans (hb4.mono Hb2.out.size)
  have Hp4 := Lib.hid hp4
  have HpP : Hid (W4.heap[P]? = _) := (hb4.block P (lt_of_block Hp2.out)).trans Hp2.out
  clear hb3 hb4 hp4 d1
  have e0 := cell_n Hp4.out 0 (v := .int .i64 (n : Int)) rfl
  have e1 := cell_n Hp4.out 1 (v := .int .i64 (b : Int)) rfl
  by_cases h0 : b = 0
  · have q0 : ((b : Int) == 0) = true := beq_iff_eq.2 (by omega)
    have HZ : Hid ((n : Int) = numberP l key) := by show _ = _; rw [HN.out, if_pos h0]
    clear h0
    go_wp2_with fail
    exact HE.out _ _ Hb4.out HZ.out
  · have q0 : ((b : Int) == 0) = false := beq_eq_false_iff_ne.2 (by omega)
    have HZ : Hid (numberP l key = if y = [100, 111, 110, 101] then (t : Int) else (n : Int)) := by show _ = _; rw [HN.out, if_neg h0]
    clear h0
    go_wp2_with fail
    refine (HRc.out W4 Hb4.out).mono ?_
    rintro e w5 ⟨rfl, hb5⟩
    have Hb5 := Lib.hid hb5
    clear hb5
    have Hb5' : Hid (Below w.heap.size w w5) := Hb4.out.trans (Hb5.out.mono Hb4.out.size)
    dsimp only
    go_wp2_with fail
    refine (HG2.out w5 Hb5'.out).mono ?_
    rintro e w6 ⟨a6, n6, c6, kd6, vr6, ka6, kn6, kc6, rfl, hb6⟩
    have hb46 : Below W4.heap.size W4 w6 := Hb5.out.trans (hb6.mono Hb5.out.size)
    have Hb6 : Hid (Below w.heap.size w w6) := Hb4.out.trans (hb46.mono Hb4.out.size)
    have hV6 := (hb46.block V (lt_of_block Hp4.out)).trans Hp4.out
    have hP6 := (hb46.block P (lt_of_block HpP.out)).trans HpP.out
    have hPV : P ≠ V := fun e => by rw [e] at hP6; rw [hV6] at hP6; simp at hP6
    have hwP : w.heap.size ≤ P := by rw [← hP.out]; exact Hb1.out.size
    have HwP := Lib.hid hwP
    clear hb6 hb46 hwP e0 e1
    dsimp only
    have p0 := cell_n hP6 0 (v := .int .i64 kd1) rfl
    have p1 := cell_n hP6 1 (v := str x) rfl
    have p2 := cell_n hP6 2 (v := .int .i64 vr1) rfl
    have p3 := cell_n hP6 3 (v := .slice ka1 kn1 kc1) rfl
    have f0 := free_n hP6 0
    have f1 := free_n hP6 1
    have f2 := free_n hP6 2
    have f3 := free_n hP6 3
    have hcb : Below w.heap.size w (setFrom w6 P 0 [.int .i64 kd6, str y, .int .i64 vr6, .slice ka6 kn6 kc6]) := setFrom_below HwP.out _ _ _ Hb6.out
    have hc1 := cell_n (setAll_at (xs := [.int .i64 kd1, str x, .int .i64 vr1, .slice ka1 kn1 kc1]) hP6 [.int .i64 kd6, str y, .int .i64 vr6, .slice ka6 kn6 kc6] rfl) 1 (v := str y) rfl
    have hcV : (setFrom w6 P 0 [.int .i64 kd6, str y, .int .i64 vr6, .slice ka6 kn6 kc6]).heap[V]? = _ := (setFrom_other hPV _ _ _).trans hV6
    go_upto_region 6 with fail
    clear p0 p1 p2 p3 f0 f1 f2 f3
    show Code.wp _ _ _ _ (setFrom w6 P 0 [.int .i64 kd6, str y, .int .i64 vr6, .slice ka6 kn6 kc6])
    obtain ⟨W7, hW7⟩ := hide (setFrom w6 P 0 [.int .i64 kd6, str y, .int .i64 vr6, .slice ka6 kn6 kc6])
    rw [hW7.out] at hcb hcV
    have hc1' : W7.cell? ⟨P, 1, none⟩ = some (str y) := by rw [← hW7.out]; exact hc1
    rw [hW7.out]
    have Hcb := Lib.hid hcb
    have e0 := cell_n hcV 0 (v := .int .i64 (n : Int)) rfl
    have e2 := cell_n hcV 2 (v := .int .i64 (t : Int)) rfl
    clear hcb hcV hc1 hV6 hP6 hPV
    by_cases hd : y = [100, 111, 110, 101]
    · have q1 : (y == [100, 111, 110, 101]) = true := beq_iff_eq.2 hd
      have HZ2 : Hid ((t : Int) = numberP l key) := by show _ = _; rw [HZ.out, if_pos hd]
      clear hd
      go_wp2_with fail
      exact HE.out _ _ Hcb.out HZ2.out
    · have q1 : (y == [100, 111, 110, 101]) = false := beq_eq_false_iff_ne.2 hd
      have HZ2 : Hid ((n : Int) = numberP l key) := by show _ = _; rw [HZ.out, if_neg hd]
      clear hd
      go_wp2_with fail
      exact HE.out _ _ Hcb.out HZ2.out
set_option maxHeartbeats 4000000 in
set_option maxRecDepth 100000 in
theorem numRef_law (v : Value) (l : List PairP) (F : Nat → Prop) (key : List UInt8) (w : World) (h : Prs F w v l) (hn : l.length ≤ 3518437208800) (hk : key.length ≤ 1099511627776000) (hv : VarsOk w) :
    Calls Tryd.prog 6 #[v, str key] w fun e w' => e = .returned (.int .i64 (numberP l key)) ∧ Below w.heap.size w w' := by
  obtain ⟨post, HP⟩ := hide (fun (e : Ending) (w' : World) => e = .returned (.int .i64 (numberP l key)) ∧ Below w.heap.size w w')
  rw [HP.out]
  obtain ⟨ao, cap, rfl, hcap, hmax⟩ := h.slice
  have HV : Hid (∀ w', Below w.heap.size w w' → VarsOk w') := fun w' hb => hv.below hb
  have HG : Hid (∀ k w1, Below w.heap.size w w1 → Calls Tryd.prog 21 #[.slice ao l.length cap, vCmd 2 k [] 0] w1 (GetPost w1 (getP l k))) := fun k w1 hb => getRef_law _ l (fun _ => True) w1 ((h.frame (Plain.good _) (Agree.below hb)).weak (Plain.good _) (fun _ _ _ => trivial)) k
  have HE : Hid (∀ (z : Int) w1, Below w.heap.size w w1 → z = numberP l key → post (.returned (.int .i64 z)) w1) := by
    show ∀ z w1, _ → _ → _
    intro z w1 h1 h2
    rw [← HP.out, h2]
    exact ⟨rfl, h1⟩
  obtain ⟨x, hx⟩ := hide (getP l (107 :: key))
  have HG1 : Hid (Calls Tryd.prog 21 #[.slice ao l.length cap, vCmd 2 (107 :: key) [] 0] w (GetPost w x)) := by
    have := HG.out (107 :: key) w (Below.refl _ _)
    rwa [hx.out] at this
  have hxl := getP_len l (107 :: key)
  have HN : Hid (numberP l key = if (heldV x).2.1 = 0 then ((heldV x).1 : Int) else if getP l (116 :: Lib.decDigits (heldV x).2.1) = [100, 111, 110, 101] then ((heldV x).2.2 : Int) else ((heldV x).1 : Int)) := by
    show _ = _
    unfold numberP
    rw [hx.out]
  rw [hx.out] at hxl
  have hle := heldV_le x
  have HRd : Hid (∀ w1, Below w.heap.size w w1 → Calls Tryd.prog 22 #[str x] w1 fun e w' => e = .returned (.agg #[.int .i64 ((heldV x).1 : Int), .int .i64 ((heldV x).2.1 : Int), .int .i64 ((heldV x).2.2 : Int)]) ∧ Below w1.heap.size w1 w') := fun w1 hb => heldOf_law x hxl w1
  obtain ⟨n, hnn⟩ := hide (heldV x).1
  obtain ⟨b, hbb⟩ := hide (heldV x).2.1
  obtain ⟨t, htt⟩ := hide (heldV x).2.2
  rw [hnn.out, hbb.out, htt.out] at HRd HN
  rw [hbb.out] at hle
  have Hb9 : Hid (b ≤ 999999999) := hle.2.1
  obtain ⟨y, hy⟩ := hide (getP l (116 :: Lib.decDigits b))
  rw [hy.out] at HN
  have HG2 : Hid (∀ w1, Below w.heap.size w w1 → Calls Tryd.prog 21 #[.slice ao l.length cap, vCmd 2 (116 :: Lib.decDigits b) [] 0] w1 (GetPost w1 y)) := by
    show ∀ w1, _ → _
    intro w1 hb
    have := HG.out (116 :: Lib.decDigits b) w1 hb
    rwa [hy.out] at this
  have hdl : (Lib.decDigits b).length ≤ 100 := by
    rw [Lib.decDigits_length]
    have := Lib.nDigits_le20 b (by have := Hb9.out; omega)
    omega
  have HRc : Hid (∀ w1, Below w.heap.size w w1 → Calls Tryd.prog 23 #[.int .i64 (b : Int)] w1 fun e w' => e = .returned (str (Lib.decDigits b)) ∧ Below w1.heap.size w1 w') := fun w1 hb => decimal_law b b w1 (Nat.le_refl _) (by have := Hb9.out; omega)
  obtain ⟨dd, hdd⟩ := hide (Lib.decDigits b)
  rw [hdd.out] at HG2 HRc hdl
  clear h hv hcap hmax hxl hle
  go_enter Tryd.func6, Tryd.ntmps6
  go_wp2_with fail
  refine HG1.out.mono ?_
  rintro e w1 ⟨a1, n1, c1, kd1, vr1, ka1, kn1, kc1, rfl, hb1⟩
  have Hb1 := Lib.hid hb1
  clear hb1
  dsimp only
  have hb2 : Below w.heap.size w (w1.alloc (.cells #[.int .i64 kd1, str x, .int .i64 vr1, .slice ka1 kn1 kc1] 56)) := Hb1.out.alloc Hb1.out.size _
  have hp2 := hp_at w1 (.cells #[.int .i64 kd1, str x, .int .i64 vr1, .slice ka1 kn1 kc1] 56) (k := w1.heap.size) rfl
  go_upto_region 2 with fail
  obtain ⟨W2, hW2⟩ := hide (w1.alloc (.cells #[.int .i64 kd1, str x, .int .i64 vr1, .slice ka1 kn1 kc1] 56))
  obtain ⟨P, hP⟩ := hide w1.heap.size
  rw [hW2.out] at hb2 hp2
  rw [hP.out] at hp2
  rw [hW2.out, hP.out]
  have Hb2 := Lib.hid hb2
  have Hp2 := Lib.hid hp2
  clear hb2 hp2
  have d1 := cell_n Hp2.out 1 (v := str x) rfl
  go_wp2_with fail
  refine (HRd.out W2 Hb2.out).mono ?_
  rintro e w3 ⟨rfl, hb3⟩
  dsimp only
  have hb4 : Below W2.heap.size W2 (w3.alloc (.cells #[.int .i64 (n : Int), .int .i64 (b : Int), .int .i64 (t : Int)] 49)) := hb3.alloc hb3.size _
  have hp4 := hp_at w3 (.cells #[.int .i64 (n : Int), .int .i64 (b : Int), .int .i64 (t : Int)] 49) (k := w3.heap.size) rfl
  go_upto_region 3 with fail
  obtain ⟨W4, hW4⟩ := hide (w3.alloc (.cells #[.int .i64 (n : Int), .int .i64 (b : Int), .int .i64 (t : Int)] 49))
  obtain ⟨V, hV⟩ := hide w3.heap.size
  rw [hW4.out] at hb4 hp4
  rw [hV.out] at hp4
  rw [hW4.out, hV.out]
  have Hb4 : Hid (Below w.heap.size w W4) := Hb2.out.trans (hb4.mono Hb2.out.size)
  have Hp4 := Lib.hid hp4
  have HpP : Hid (W4.heap[P]? = _) := (hb4.block P (lt_of_block Hp2.out)).trans Hp2.out
  clear hb3 hb4 hp4 d1
  have e0 := cell_n Hp4.out 0 (v := .int .i64 (n : Int)) rfl
  have e1 := cell_n Hp4.out 1 (v := .int .i64 (b : Int)) rfl
  by_cases h0 : b = 0
  · have q0 : ((b : Int) == 0) = true := beq_iff_eq.2 (by omega)
    have HZ : Hid ((n : Int) = numberP l key) := by show _ = _; rw [HN.out, if_pos h0]
    clear h0
    go_wp2_with fail
    exact HE.out _ _ Hb4.out HZ.out
  · have q0 : ((b : Int) == 0) = false := beq_eq_false_iff_ne.2 (by omega)
    have HZ : Hid (numberP l key = if y = [100, 111, 110, 101] then (t : Int) else (n : Int)) := by show _ = _; rw [HN.out, if_neg h0]
    clear h0
    go_wp2_with fail
    refine (HRc.out W4 Hb4.out).mono ?_
    rintro e w5 ⟨rfl, hb5⟩
    have Hb5 := Lib.hid hb5
    clear hb5
    have Hb5' : Hid (Below w.heap.size w w5) := Hb4.out.trans (Hb5.out.mono Hb4.out.size)
    dsimp only
    go_wp2_with fail
    refine (HG2.out w5 Hb5'.out).mono ?_
    rintro e w6 ⟨a6, n6, c6, kd6, vr6, ka6, kn6, kc6, rfl, hb6⟩
    have hb46 : Below W4.heap.size W4 w6 := Hb5.out.trans (hb6.mono Hb5.out.size)
    have Hb6 : Hid (Below w.heap.size w w6) := Hb4.out.trans (hb46.mono Hb4.out.size)
    have hV6 := (hb46.block V (lt_of_block Hp4.out)).trans Hp4.out
    have hP6 := (hb46.block P (lt_of_block HpP.out)).trans HpP.out
    have hPV : P ≠ V := fun e => by rw [e] at hP6; rw [hV6] at hP6; simp at hP6
    have hwP : w.heap.size ≤ P := by rw [← hP.out]; exact Hb1.out.size
    have HwP := Lib.hid hwP
    clear hb6 hb46 hwP e0 e1
    dsimp only
    have p0 := cell_n hP6 0 (v := .int .i64 kd1) rfl
    have p1 := cell_n hP6 1 (v := str x) rfl
    have p2 := cell_n hP6 2 (v := .int .i64 vr1) rfl
    have p3 := cell_n hP6 3 (v := .slice ka1 kn1 kc1) rfl
    have f0 := free_n hP6 0
    have f1 := free_n hP6 1
    have f2 := free_n hP6 2
    have f3 := free_n hP6 3
    have hcb : Below w.heap.size w (setFrom w6 P 0 [.int .i64 kd6, str y, .int .i64 vr6, .slice ka6 kn6 kc6]) := setFrom_below HwP.out _ _ _ Hb6.out
    have hc1 := cell_n (setAll_at (xs := [.int .i64 kd1, str x, .int .i64 vr1, .slice ka1 kn1 kc1]) hP6 [.int .i64 kd6, str y, .int .i64 vr6, .slice ka6 kn6 kc6] rfl) 1 (v := str y) rfl
    have hcV : (setFrom w6 P 0 [.int .i64 kd6, str y, .int .i64 vr6, .slice ka6 kn6 kc6]).heap[V]? = _ := (setFrom_other hPV _ _ _).trans hV6
    go_upto_region 7 with fail
    clear p0 p1 p2 p3 f0 f1 f2 f3
    show Code.wp _ _ _ _ (setFrom w6 P 0 [.int .i64 kd6, str y, .int .i64 vr6, .slice ka6 kn6 kc6])
    obtain ⟨W7, hW7⟩ := hide (setFrom w6 P 0 [.int .i64 kd6, str y, .int .i64 vr6, .slice ka6 kn6 kc6])
    rw [hW7.out] at hcb hcV
    have hc1' : W7.cell? ⟨P, 1, none⟩ = some (str y) := by rw [← hW7.out]; exact hc1
    rw [hW7.out]
    have Hcb := Lib.hid hcb
    have e0 := cell_n hcV 0 (v := .int .i64 (n : Int)) rfl
    have e2 := cell_n hcV 2 (v := .int .i64 (t : Int)) rfl
    clear hcb hcV hc1 hV6 hP6 hPV
    by_cases hd : y = [100, 111, 110, 101]
    · have q1 : (y == [100, 111, 110, 101]) = true := beq_iff_eq.2 hd
      have HZ2 : Hid ((t : Int) = numberP l key) := by show _ = _; rw [HZ.out, if_pos hd]
      clear hd
      go_wp2_with fail
      exact HE.out _ _ Hcb.out HZ2.out
    · have q1 : (y == [100, 111, 110, 101]) = false := beq_eq_false_iff_ne.2 hd
      have HZ2 : Hid ((n : Int) = numberP l key) := by show _ = _; rw [HZ.out, if_neg hd]
      clear hd
      go_wp2_with fail
      exact HE.out _ _ Hcb.out HZ2.out
end Go.Proofs.YtnmlkoidmacinaaDoor
