/-
  The map's state: a key's value is put.
-/
import Derived.Test.YtnmlkoidmacinaaDoorKj
import Derived.Test.YtnmlkoidmacinaaDoorKg
namespace Go.Proofs.YtnmlkoidmacinaaDoor
open Go.RowKit Wm Mm Dg Kv
set_option linter.unusedVariables false
set_option linter.unusedSimpArgs false

/-- what a call on the state may change: the state's cell, the row that it held; what is new -/
def Zone (B : Nat) (v : Value) : Nat → Prop := fun j => j = B ∨ v.ownBlock = some j
abbrev vResK (kind : Int) (val : List UInt8) (ver : Int) (kv : Value) : Value := .agg #[.int .i64 kind, str val, .int .i64 ver, kv]
abbrev rowRes (kind : Int) (val : List UInt8) (ver : Int) (kv : Value) : List Value := [.int .i64 kind, str val, .int .i64 ver, kv]
abbrev zeroRes : List Value := [.int .i64 0, .string ⟨#[]⟩, .int .i64 0, .slice none 0 0]
theorem four_cellsK {w : World} {R : Nat} {a0 a1 a2 a3 : Value} {t : TypeId} (h : w.heap[R]? = some (.cells #[a0, a1, a2, a3] t (0, 0))) : w.cell? ⟨R, 0, none⟩ = some a0 ∧ w.cell? ⟨R, 1, none⟩ = some a1 ∧ w.cell? ⟨R, 2, none⟩ = some a2 ∧ w.cell? ⟨R, 3, none⟩ = some a3 :=
  ⟨cell_n h 0 rfl, cell_n h 1 rfl, cell_n h 2 rfl, cell_n h 3 rfl⟩
theorem four_freeK {w : World} {R : Nat} {cs : Array Value} {t : TypeId} (h : w.heap[R]? = some (.cells cs t (0, 0))) : w.frozen? ⟨R, 0, none⟩ = false ∧ w.frozen? ⟨R, 1, none⟩ = false ∧ w.frozen? ⟨R, 2, none⟩ = false ∧ w.frozen? ⟨R, 3, none⟩ = false :=
  ⟨free_n h 0, free_n h 1, free_n h 2, free_n h 3⟩
theorem setFrom_chg (R : Nat) : ∀ (vs : List Value) (w : World) (i : Nat), Chg (fun j => j = R) w (setFrom w R i vs)
  | [], w, i => Chg.refl _ _
  | v :: r, w, i => (Chg.setCell (F := fun j => j = R) (a := ⟨R, i, none⟩) w rfl v).trans (setFrom_chg R r _ (i + 1))
/-- two blocks of two types -/
theorem blk_ne {w : World} {a b : Nat} {x y : Array Value} {t u : TypeId} (ha : w.heap[a]? = some (.cells x t (0, 0))) (hb : w.heap[b]? = some (.cells y u (0, 0))) (h : t ≠ u) : a ≠ b := by
  intro e
  subst e
  rw [ha] at hb
  injection hb with hb
  injection hb with _ hb _
  exact h hb
theorem own_blk_ne {w : World} {S size n b : Nat} {e u : TypeId} {v : Value} {xs : List Value} {y : Array Value} (h : w.ownsRow S e size v n xs) (hb : w.heap[b]? = some (.cells y u (0, 0))) (hne : e ≠ u) : v.ownBlock ≠ some b := by
  intro hv
  rcases h.2 with ⟨rfl, _⟩ | ⟨g, c, k, rfl, _, hg, _⟩
  · cases hv
  · have e' : g = b := by simpa [Value.ownBlock] using hv
    subst e'
    exact blk_ne hg hb hne rfl

set_option maxHeartbeats 4000000 in
set_option maxRecDepth 100000 in
/-- no room -/
theorem put_full (S B : Nat) (key val : List UInt8) (v : Value) (l : List PairP) (w : World) (hB : w.heap[B]? = some (.cells #[v] 80 (0, 0))) (ho : OwnP S w v l) (hk : OkPs l) (hf : fullK l key val = true) :
    Calls Tryd.prog 53 #[.pointer (some ⟨B, 0, none⟩), str key, str val] w fun e w' => e = .returned (vResK 4 [] 0 (.slice none 0 0)) ∧ Below w.heap.size w w' := by
  obtain ⟨post, HP⟩ := hide (fun (e : Ending) (w' : World) => e = .returned (vResK 4 [] 0 (.slice none 0 0)) ∧ Below w.heap.size w w')
  rw [HP.out]
  obtain ⟨ao, cap, rfl⟩ := owns_slice ho
  obtain ⟨W, hW⟩ := hide (w.alloc (.cells zeroRes.toArray 56))
  obtain ⟨R, hR⟩ := hide w.heap.size
  have HbW : Hid (Below R w W) := by show Below _ _ _; rw [← hW.out, ← hR.out]; exact (Below.refl _ _).alloc (Nat.le_refl _) _
  have HRW : Hid (W.heap[R]? = some (.cells zeroRes.toArray 56 (0, 0))) := by show _ = _; rw [← hW.out, ← hR.out]; exact hp_at _ _ rfl
  have hBW : W.heap[B]? = some (.cells #[.slice ao l.length cap] 80 (0, 0)) := by rw [HbW.out.block B (by rw [← hR.out]; exact lt_of_block hB)]; exact hB
  have HBW := Lib.hid hBW
  have hoW : OwnP S W (.slice ao l.length cap) l := own_below ho (by rw [hR.out]; exact HbW.out)
  have KF := Lib.hid (find_law key _ l _ W hoW.prs hk)
  have HoW := Lib.hid hoW
  obtain ⟨k, hkq⟩ := hide (place l key)
  obtain ⟨q, hq⟩ := hide (isK l key)
  rw [hkq.out, hq.out] at KF
  have c0 := cell_n HBW.out 0 (v := .slice ao l.length cap) rfl
  have HX : Hid (∀ w', Below W.heap.size W w' → w'.heap[B]? = some (.cells #[.slice ao l.length cap] 80 (0, 0)) ∧ w'.heap[R]? = some (.cells zeroRes.toArray 56 (0, 0)) ∧ OwnP S w' (.slice ao l.length cap) l ∧ Below R w w') :=
    fun w' hb => ⟨(hb.block _ (lt_of_block HBW.out)).trans HBW.out, (hb.block _ (lt_of_block HRW.out)).trans HRW.out, own_below HoW.out hb, HbW.out.trans (hb.mono (by rw [← hR.out]; exact HbW.out.size))⟩
  have HEnd : Hid (∀ w', Below R w w' → w'.heap[R]? = some (.cells (rowRes 4 [] 0 (.slice none 0 0)).toArray 56 (0, 0)) → post (.returned (vResK 4 [] 0 (.slice none 0 0))) w') := fun w' hb _ => by rw [← HP.out]; exact ⟨rfl, by rw [hR.out]; exact hb⟩
  have hn32 := hk.n
  have hf' : (64 < val.length) ∨ (val.length ≤ 64 ∧ q = false ∧ l.length = 32) ∨ (val.length ≤ 64 ∧ q = true ∧ ∃ h : k < l.length, l[k].ver = 1099511627775) := by
    unfold fullK at hf
    rw [hq.out] at hf
    by_cases h64 : 64 < val.length
    · exact Or.inl h64
    · cases q
      · simp [h64] at hf
        exact Or.inr (Or.inl ⟨by omega, rfl, hf⟩)
      · simp [h64] at hf
        obtain ⟨h1, h2⟩ := isK_at hq.out
        refine Or.inr (Or.inr ⟨by omega, rfl, ?_⟩)
        unfold oldK at hf
        rw [hq.out, if_pos rfl, List.getD_eq_getElem?_getD, List.getElem?_eq_getElem h1] at hf
        rw [← hkq.out]
        exact ⟨h1, hf⟩
  have Hf := Lib.hid hf'
  clear hB ho hk hf hBW hoW hf'
  go_enter Tryd.func53, Tryd.ntmps53
  go_upto_region 1 with fail
  rw [hW.out, hR.out]
  go_wp2_with fail
  refine KF.out.mono ?_
  rintro e w1 ⟨rfl, hb1⟩
  obtain ⟨h1, h2, h3, h4⟩ := HX.out w1 hb1
  have H1 := Lib.hid h1
  have H2 := Lib.hid h2
  have H3 := Lib.hid h3
  have H4 := Lib.hid h4
  clear c0 hb1 h1 h2 h3 h4
  have c0 := cell_n H1.out 0 (v := .slice ao l.length cap) rfl
  obtain ⟨r0, r1, r2, r3⟩ := four_cellsK H2.out
  obtain ⟨f0, f1, f2, f3⟩ := four_freeK H2.out
  have HE : Hid (post (.returned (vResK 4 [] 0 (.slice none 0 0))) (setAll w1 R (rowRes 4 [] 0 (.slice none 0 0)))) := HEnd.out _ (setAll_below H4.out (Nat.le_refl _) _) (setAll_at (xs := zeroRes) H2.out _ rfl)
  have HER : Hid ((setAll w1 R (rowRes 4 [] 0 (.slice none 0 0))).heap[R]? = some (.cells (rowRes 4 [] 0 (.slice none 0 0)).toArray 56 (0, 0))) := setAll_at (xs := zeroRes) H2.out _ rfl
  rcases Hf.out with h64 | ⟨h64, hq2, hl⟩ | ⟨h64, hq2, hkl, hver⟩
  · have t1 : decide ((64 : Int) < (val.length : Int)) = true := decide_eq_true (by omega)
    clear h64 Hf
    go_wp2_with fail
    change bodyPost _ _ _ Exit.ret _ (setAll w1 R (rowRes 4 [] 0 (.slice none 0 0)))
    generalize setAll w1 R (rowRes 4 [] 0 (.slice none 0 0)) = W9 at HE HER ⊢
    clear r0 r1 r2 r3 f0 f1 f2 f3
    obtain ⟨r0, r1, r2, r3⟩ := four_cellsK HER.out
    refine bodyPost_ret (by simp [results, Tryd.results53, go_sem, r0, r1, r2, r3]; rfl) rfl ?_
    exact HE.out
  · have t1 : decide ((64 : Int) < (val.length : Int)) = false := decide_eq_false (by omega)
    have t2 : ((l.length : Int) == 32) = true := by rw [hl]; rfl
    clear h64 Hf hl
    obtain rfl : false = q := hq2.symm
    go_wp2_with fail
    change bodyPost _ _ _ Exit.ret _ (setAll w1 R (rowRes 4 [] 0 (.slice none 0 0)))
    generalize setAll w1 R (rowRes 4 [] 0 (.slice none 0 0)) = W9 at HE HER ⊢
    clear r0 r1 r2 r3 f0 f1 f2 f3
    obtain ⟨r0, r1, r2, r3⟩ := four_cellsK HER.out
    refine bodyPost_ret (by simp [results, Tryd.results53, go_sem, r0, r1, r2, r3]; rfl) rfl ?_
    exact HE.out
  · have t1 : decide ((64 : Int) < (val.length : Int)) = false := decide_eq_false (by omega)
    obtain ⟨b, off, e1, g0, g1, g2⟩ := Sl.three (OwnP.prs H3.out) hkl
    subst e1
    have t2 : (l[k].ver == 1099511627775) = true := by rw [hver]; rfl
    obtain ⟨ve, hve⟩ := hide l[k].ver
    rw [hve.out] at g2 t2
    have hki : (k : Int) < (l.length : Int) := by omega
    clear h64 Hf hver g0 g1
    obtain rfl : true = q := hq2.symm
    go_wp2_with fail
    change bodyPost _ _ _ Exit.ret _ (setAll w1 R (rowRes 4 [] 0 (.slice none 0 0)))
    generalize setAll w1 R (rowRes 4 [] 0 (.slice none 0 0)) = W9 at HE HER ⊢
    clear r0 r1 r2 r3 f0 f1 f2 f3
    obtain ⟨r0, r1, r2, r3⟩ := four_cellsK HER.out
    refine bodyPost_ret (by simp [results, Tryd.results53, go_sem, r0, r1, r2, r3]; rfl) rfl ?_
    exact HE.out

/-- the cells of one pair of an own row -/
theorem own_pair {w : World} {S n g cap : Nat} {l : List PairP} (h : w.ownsRow S 25 3 (.slice (some ⟨g, 0, none⟩) n cap) n (l.flatMap rowPair)) {k : Nat} (hk : k < l.length) :
    w.cell? ⟨g, k * 3, none⟩ = some (str l[k].key) ∧ w.cell? ⟨g, k * 3 + 1, none⟩ = some (str l[k].val) ∧ w.cell? ⟨g, k * 3 + 2, none⟩ = some (.int .i64 l[k].ver) := by
  have hg : ∀ (l : List PairP) (k : Nat) (hk : k < l.length), (l.flatMap rowPair)[k * 3]? = some (str l[k].key) ∧ (l.flatMap rowPair)[k * 3 + 1]? = some (str l[k].val) ∧ (l.flatMap rowPair)[k * 3 + 2]? = some (.int .i64 l[k].ver) := by
    intro l
    induction l with
    | nil => intro k hk; simp at hk
    | cons a r ih =>
      intro k hk
      cases k with
      | zero => exact ⟨rfl, rfl, rfl⟩
      | succ k =>
        have := ih k (by simpa using hk)
        rw [List.flatMap_cons, show (k + 1) * 3 = k * 3 + 1 + 1 + 1 from by omega]
        exact this
  exact ⟨own_cell h (hg l k hk).1, own_cell h (hg l k hk).2.1, own_cell h (hg l k hk).2.2⟩
theorem own_free {w : World} {S size n g cap : Nat} {e : TypeId} {xs : List Value} (h : w.ownsRow S e size (.slice (some ⟨g, 0, none⟩) n cap) n xs) (i : Nat) : w.frozen? ⟨g, i, none⟩ = false := by
  rcases h.2 with ⟨hv, _⟩ | ⟨g', c, cur, hv, _, hg, _⟩
  · cases hv
  · injection hv with e1
    injection e1 with e1
    injection e1 with e1
    subst e1
    exact free_n hg i
theorem flat_set2 (val : List UInt8) (ver : Int) : ∀ (l : List PairP) (k : Nat) (hk : k < l.length), ((l.flatMap rowPair).set (k * 3 + 1) (str val)).set (k * 3 + 2) (.int .i64 ver) = (l.set k ⟨l[k].key, val, ver⟩).flatMap rowPair
  | a :: r, 0, _ => rfl
  | a :: r, k + 1, h => by
    have ih := flat_set2 val ver r k (by simpa using h)
    rw [List.set_cons_succ, List.flatMap_cons, List.flatMap_cons, List.getElem_cons_succ, ← ih, show (k + 1) * 3 = k * 3 + 1 + 1 + 1 from by omega]
    rfl
/-- value and version of one pair are written -/
theorem own_setPair {w : World} {S n g cap : Nat} {l : List PairP} (h : w.ownsRow S 25 3 (.slice (some ⟨g, 0, none⟩) n cap) n (l.flatMap rowPair)) {k : Nat} (hk : k < l.length) (val : List UInt8) (ver : Int) :
    ((w.setCell ⟨g, k * 3 + 1, none⟩ (str val)).setCell ⟨g, k * 3 + 2, none⟩ (.int .i64 ver)).ownsRow S 25 3 (.slice (some ⟨g, 0, none⟩) n cap) n ((l.set k ⟨l[k].key, val, ver⟩).flatMap rowPair) := by
  have h1 := own_put (own_put h (k * 3 + 1) (str val)) (k * 3 + 2) (.int .i64 ver)
  rw [flat_set2 val ver l k hk] at h1
  exact h1

set_option maxHeartbeats 4000000 in
set_option maxRecDepth 100000 in
/-- a new key -/
theorem put_new (S B : Nat) (key val : List UInt8) (v : Value) (l : List PairP) (w : World) (hB : w.heap[B]? = some (.cells #[v] 80 (0, 0))) (ho : OwnP S w v l) (hk : OkPs l) (hf : fullK l key val = false) (hi : isK l key = false) (hS : S ≤ w.heap.size) :
    Calls Tryd.prog 53 #[.pointer (some ⟨B, 0, none⟩), str key, str val] w fun e w' => ∃ v', e = .returned (vResK 1 [] 1 (.slice none 0 0)) ∧ w'.heap[B]? = some (.cells #[v'] 80 (0, 0)) ∧ OwnP S w' v' (putL l key val) ∧ Chg (Zone B v) w w' ∧ (∀ g, v'.ownBlock = some g → v.ownBlock = some g ∨ w.heap.size ≤ g) := by
  obtain ⟨post, HP⟩ := hide (fun (e : Ending) (w' : World) => ∃ v', e = .returned (vResK 1 [] 1 (.slice none 0 0)) ∧ w'.heap[B]? = some (.cells #[v'] 80 (0, 0)) ∧ OwnP S w' v' (putL l key val) ∧ Chg (Zone B v) w w' ∧ (∀ g, v'.ownBlock = some g → v.ownBlock = some g ∨ w.heap.size ≤ g))
  rw [HP.out]
  obtain ⟨ao, cap, rfl⟩ := owns_slice ho
  obtain ⟨W, hW⟩ := hide (w.alloc (.cells zeroRes.toArray 56))
  obtain ⟨R, hR⟩ := hide w.heap.size
  have HbW : Hid (Below w.heap.size w W) := by show Below _ _ _; rw [← hW.out]; exact (Below.refl _ _).alloc (Nat.le_refl _) _
  have HRW : Hid (W.heap[R]? = some (.cells zeroRes.toArray 56 (0, 0))) := by show _ = _; rw [← hW.out, ← hR.out]; exact hp_at _ _ rfl
  have HBW : Hid (W.heap[B]? = some (.cells #[.slice ao l.length cap] 80 (0, 0))) := by show _ = _; rw [HbW.out.block B (lt_of_block hB)]; exact hB
  have HoW : Hid (OwnP S W (.slice ao l.length cap) l) := own_below ho HbW.out
  have KF := Lib.hid (find_law key _ l _ W HoW.out.prs hk)
  obtain ⟨k, hkq⟩ := hide (place l key)
  have hkl : k ≤ l.length := by rw [← hkq.out]; exact place_le l key
  rw [hkq.out, hi] at KF
  have c0 := cell_n HBW.out 0 (v := .slice ao l.length cap) rfl
  have hn32 := hk.n
  have hf' : val.length ≤ 64 ∧ l.length ≠ 32 := by
    unfold fullK at hf
    rw [hi] at hf
    simp at hf
    exact hf
  obtain ⟨n, hn⟩ := hide l.length
  have Hpl : Hid (putL l key val = l.take k ++ ⟨key, val, 1⟩ :: l.drop k) := by
    show _ = _
    unfold putL newK
    rw [oldK_no hi, hi, hkq.out]
    rfl
  have HS := Lib.hid hS
  have Hlt := Lib.hid (lt_of_block hB)
  rw [hn.out] at HBW c0 hkl hn32 hf'
  have HoW2 : Hid (W.ownsRow S 25 3 (.slice ao n cap) n (l.flatMap rowPair)) := by show World.ownsRow _ _ _ _ _ _ _; rw [← hn.out]; exact HoW.out
  rw [hn.out] at KF HP
  obtain ⟨hf1, hf2⟩ := hf'
  have t1 : decide ((64 : Int) < (val.length : Int)) = false := decide_eq_false (by omega)
  have t2 : ((n : Int) == 32) = false := beq_eq_false_iff_ne.2 (by omega)
  clear hB ho hk hf hS hi hf1 hf2 HoW
  go_enter Tryd.func53, Tryd.ntmps53
  go_upto_region 1 with fail
  rw [hW.out, hR.out]
  go_wp2_with fail
  refine KF.out.mono ?_
  rintro e w1 ⟨rfl, hb1⟩
  have H1 : Hid (w1.heap[B]? = some (.cells #[.slice ao n cap] 80 (0, 0))) := (hb1.block _ (lt_of_block HBW.out)).trans HBW.out
  have H2 : Hid (w1.heap[R]? = some (.cells zeroRes.toArray 56 (0, 0))) := (hb1.block _ (lt_of_block HRW.out)).trans HRW.out
  have H3 := Lib.hid (own_below HoW2.out hb1)
  have H4 : Hid (Below w.heap.size w w1) := HbW.out.trans (hb1.mono HbW.out.size)
  clear c0 hb1
  have c0 := cell_n H1.out 0 (v := .slice ao n cap) rfl
  dsimp only
  go_upto_region 7 with fail
  obtain ⟨W2, hW2⟩ := hide (w1.alloc (.cells #[str key, .string ⟨#[]⟩, .int .i64 0] 25))
  obtain ⟨V1, hV1⟩ := hide w1.heap.size
  have HbW2 : Hid (Below w1.heap.size w1 W2) := by show Below _ _ _; rw [← hW2.out]; exact (Below.refl _ _).alloc (Nat.le_refl _) _
  have HV2 : Hid (W2.heap[V1]? = some (.cells (rowPair ⟨key, [], 0⟩).toArray 25 (0, 0))) := by show _ = _; rw [← hW2.out, ← hV1.out]; exact hp_at _ _ rfl
  have KI := Lib.hid (insert_law S n cap k V1 ao l ⟨key, [], 0⟩ W2 (own_below H3.out HbW2.out) hn.out hkl (by omega) HV2.out (fun e => by
    have := (H3.out.lt V1 e).2
    rw [← hV1.out] at this
    omega) (by have h1 := HS.out; have h2 := H4.out.size; have h3 := HbW2.out.size; omega))
  go_wp2_with fail
  rw [hW2.out, hV1.out]
  refine KI.out.mono ?_
  rintro e w3 ⟨v', rfl, ho', hg', hb'⟩
  obtain ⟨a', c', rfl⟩ := owns_slice ho'
  have hlen : (l.take k ++ (⟨key, [], 0⟩ : PairP) :: l.drop k).length = n + 1 := by rw [List.length_append, List.length_cons, List.length_take, List.length_drop, hn.out]; omega
  have hget : (l.take k ++ (⟨key, [], 0⟩ : PairP) :: l.drop k)[k]? = some ⟨key, [], 0⟩ := by
    rw [List.getElem?_append_right (by rw [List.length_take]; omega), List.length_take, hn.out, Nat.min_eq_left hkl, Nat.sub_self]; rfl
  have hset : (l.take k ++ (⟨key, [], 0⟩ : PairP) :: l.drop k).set k ⟨key, val, 1⟩ = l.take k ++ ⟨key, val, 1⟩ :: l.drop k := by
    have e : (l.take k).length = k := by rw [List.length_take, hn.out]; omega
    rw [List.set_append_right _ _ (by omega), e, Nat.sub_self]; rfl
  obtain ⟨l1, hl1⟩ := hide (l.take k ++ (⟨key, [], 0⟩ : PairP) :: l.drop k)
  rw [hl1.out] at hlen hget hset
  have ho1 : w3.ownsRow S 25 3 (.slice a' (n + 1) c') (n + 1) (l1.flatMap rowPair) := by rw [← hlen, ← hl1.out]; exact ho'
  obtain ⟨g, rfl⟩ : ∃ g, a' = some ⟨g, 0, none⟩ := by
    rcases ho1.2 with ⟨hv, h0⟩ | ⟨g, c, cur, hv, _⟩
    · omega
    · injection hv with e1; exact ⟨g, e1⟩
  rw [hl1.out, hlen]
  have Ho1 := Lib.hid ho1
  have Hlen := Lib.hid hlen
  have Hset := Lib.hid hset
  obtain ⟨hkl1, hgk⟩ := List.getElem?_eq_some_iff.1 hget
  have Hgk := Lib.hid hgk
  have HB2 : Hid (W2.heap[B]? = some (.cells #[.slice ao n cap] 80 (0, 0))) := (HbW2.out.block _ (lt_of_block H1.out)).trans H1.out
  have HR2 : Hid (W2.heap[R]? = some (.cells zeroRes.toArray 56 (0, 0))) := (HbW2.out.block _ (lt_of_block H2.out)).trans H2.out
  have HO2 := own_below H3.out HbW2.out
  have HB3 : Hid (w3.heap[B]? = some (.cells #[.slice ao n cap] 80 (0, 0))) := (hg'.block B (lt_of_block HB2.out) (fun e => own_blk_ne HO2 HB2.out (by decide) e.symm)).trans HB2.out
  have HR3 : Hid (w3.heap[R]? = some (.cells zeroRes.toArray 56 (0, 0))) := (hg'.block R (lt_of_block HR2.out) (fun e => own_blk_ne HO2 HR2.out (by decide) e.symm)).trans HR2.out
  have HgB : Hid (g ≠ B) := fun e => own_blk_ne Ho1.out HB3.out (by decide) (by rw [e]; simp [Value.ownBlock])
  have HgR : Hid (g ≠ R) := fun e => own_blk_ne Ho1.out HR3.out (by decide) (by rw [e]; simp [Value.ownBlock])
  have HRB : Hid (R ≠ B) := blk_ne HR3.out HB3.out (by decide)
  have HC3 : Hid (Chg (Zone B (.slice ao n cap)) w w3) := ((Chg.fresh _ H4.out).trans ((Chg.fresh _ HbW2.out).mono (fun j h1 h2 => h2))).trans (Chg.grown hg' (fun j e => Or.inr e))
  have Hgo : Hid ((Value.slice ao n cap).ownBlock = some g ∨ w.heap.size ≤ g) := by
    rcases hb' g (by simp [Value.ownBlock]) with h1 | h1
    · exact Or.inl h1
    · have h2 := H4.out.size; have h3 := HbW2.out.size; exact Or.inr (by omega)
  have f0 := free_n HB3.out 0
  obtain ⟨W4, hW4⟩ := hide (w3.setCell ⟨B, 0, none⟩ (.slice (some ⟨g, 0, none⟩) (n + 1) c'))
  have HB4 : Hid (W4.heap[B]? = some (.cells #[.slice (some ⟨g, 0, none⟩) (n + 1) c'] 80 (0, 0))) := by show _ = _; rw [← hW4.out, heap_setCell, if_pos rfl, HB3.out]; rfl
  have HR4 : Hid (W4.heap[R]? = some (.cells zeroRes.toArray 56 (0, 0))) := by show _ = _; rw [← hW4.out]; exact hp_set_other HR3.out (fun e => HRB.out e.symm)
  have HC4 : Hid (Chg (Zone B (.slice ao n cap)) w W4) := by show Chg _ _ _; rw [← hW4.out]; exact HC3.out.trans (Chg.setCell (a := ⟨B, 0, none⟩) w3 (Or.inl rfl) _)
  have HO4 : Hid (W4.ownsRow S 25 3 (.slice (some ⟨g, 0, none⟩) (n + 1) c') (n + 1) (l1.flatMap rowPair)) := by
    show World.ownsRow _ _ _ _ _ _ _
    rw [← hW4.out]
    exact own_chg Ho1.out (Chg.setCell (F := fun j => j = B) (a := ⟨B, 0, none⟩) w3 rfl _) (fun j hj e => by
      have e1 : g = j := by simpa [Value.ownBlock] using hj
      exact HgB.out (e1.trans e))
  clear ho' hg' hb' ho1 hlen hset hget hgk HO2 c0
  have c0 := cell_n HB3.out 0 (v := .slice ao n cap) rfl
  dsimp only
  go_upto_region 8 with fail
  rw [hW4.out]
  clear c0
  have c0 := cell_n HB4.out 0 (v := .slice (some ⟨g, 0, none⟩) (n + 1) c') rfl
  have hki : (k : Int) < (n : Int) + 1 := by omega
  clear f0
  go_upto_region 9 with fail
  obtain ⟨p0, p1, p2⟩ := own_pair HO4.out hkl1
  rw [Hgk.out] at p1 p2
  have q1 := own_free HO4.out (k * 3 + 1)
  have q2 := own_free HO4.out (k * 3 + 2)
  clear p0
  have HO6 : Hid (((W4.setCell ⟨g, k * 3 + 1, none⟩ (str val)).setCell ⟨g, k * 3 + 2, none⟩ (.int .i64 1)).ownsRow S 25 3 (.slice (some ⟨g, 0, none⟩) (n + 1) c') (n + 1) ((l1.set k ⟨key, val, 1⟩).flatMap rowPair)) := by
    have := own_setPair HO4.out hkl1 val 1
    rw [Hgk.out] at this
    exact this
  have HC6 : Hid (Chg (fun j => j = g) W4 ((W4.setCell ⟨g, k * 3 + 1, none⟩ (str val)).setCell ⟨g, k * 3 + 2, none⟩ (.int .i64 1))) := (Chg.setCell (F := fun j => j = g) (a := ⟨g, k * 3 + 1, none⟩) W4 rfl _).trans (Chg.setCell (F := fun j => j = g) (a := ⟨g, k * 3 + 2, none⟩) _ rfl _)
  obtain ⟨W6, hW6⟩ := hide ((W4.setCell ⟨g, k * 3 + 1, none⟩ (str val)).setCell ⟨g, k * 3 + 2, none⟩ (.int .i64 1))
  rw [hW6.out] at HO6 HC6
  go_upto_region 11 with fail
  have hW6' : ((W4.setCell ⟨g, k * 3 + 1, none⟩ (str val)).setCell ⟨g, k * 3 + 2, none⟩ (.int .i64 1)) = W6 := hW6.out
  try rw [hW6']
  clear p1 p2 q1 q2 c0 hW6'
  have HR6 : Hid (W6.heap[R]? = some (.cells zeroRes.toArray 56 (0, 0))) := HC6.out.at HR4.out (fun e => HgR.out e.symm)
  have HB6 : Hid (W6.heap[B]? = some (.cells #[.slice (some ⟨g, 0, none⟩) (n + 1) c'] 80 (0, 0))) := HC6.out.at HB4.out (fun e => HgB.out e.symm)
  have hk6 : k < (l1.set k ⟨key, val, 1⟩).length := by rw [List.length_set]; exact hkl1
  obtain ⟨p0, p1, p2⟩ := own_pair HO6.out hk6
  have p3 : W6.cell? ⟨g, k * 3 + 2, none⟩ = some (.int .i64 1) := by
    have e : (l1.set k ⟨key, val, 1⟩)[k] = ⟨key, val, 1⟩ := List.getElem_set_self _
    rw [e] at p2; exact p2
  clear p0 p1 p2
  obtain ⟨r0, r1, r2, r3⟩ := four_cellsK HR6.out
  obtain ⟨f0, f1, f2, f3⟩ := four_freeK HR6.out
  have HEr : Hid ((setAll W6 R (rowRes 1 [] 1 (.slice none 0 0))).heap[R]? = some (.cells (rowRes 1 [] 1 (.slice none 0 0)).toArray 56 (0, 0))) := setAll_at (xs := zeroRes) HR6.out _ rfl
  have HE : Hid (post (.returned (vResK 1 [] 1 (.slice none 0 0))) (setAll W6 R (rowRes 1 [] 1 (.slice none 0 0)))) := by
    show post _ _
    rw [← HP.out]
    have hRw : w.heap.size ≤ R := by rw [hR.out]; exact Nat.le_refl _
    have hcR := setFrom_chg R (rowRes 1 [] 1 (.slice none 0 0)) W6 0
    refine ⟨_, rfl, setAll_other HB6.out HRB.out _, ?_, ?_, fun j hj => ?_⟩
    · show World.ownsRow _ _ _ _ _ _ _
      rw [Hpl.out, ← Hset.out, List.length_set, Hlen.out]
      exact own_chg HO6.out hcR (fun j hj e => by
        have e1 : g = j := by simpa [Value.ownBlock] using hj
        exact HgR.out (e1.trans e))
    · refine ⟨hcR.os.trans (HC6.out.os.trans HC4.out.os), hcR.tape.trans (HC6.out.tape.trans HC4.out.tape), hcR.output.trans (HC6.out.output.trans HC4.out.output), Nat.le_trans HC4.out.size (Nat.le_trans HC6.out.size hcR.size), fun j h1 h2 => ?_⟩
      have hj4 : j < W4.heap.size := Nat.lt_of_lt_of_le h1 HC4.out.size
      have hj6 : j < W6.heap.size := Nat.lt_of_lt_of_le hj4 HC6.out.size
      refine (hcR.block j hj6 (fun e => by have e' : j = R := e; omega)).trans ((HC6.out.block j hj4 (fun e => ?_)).trans (HC4.out.block j h1 h2))
      have e' : j = g := e
      rcases Hgo.out with h3 | h3
      · exact h2 (Or.inr (by rw [h3, e']))
      · omega
    · have e1 : g = j := by simpa [Value.ownBlock] using hj
      rw [← e1]
      exact Hgo.out
  go_wp2_with fail
  change bodyPost _ _ _ Exit.ret _ (setAll W6 R (rowRes 1 [] 1 (.slice none 0 0)))
  generalize setAll W6 R (rowRes 1 [] 1 (.slice none 0 0)) = W9 at HE HEr ⊢
  clear r0 r1 r2 r3 f0 f1 f2 f3 p3
  obtain ⟨r0, r1, r2, r3⟩ := four_cellsK HEr.out
  refine bodyPost_ret (by simp [results, Tryd.results53, go_sem, r0, r1, r2, r3]; rfl) rfl ?_
  exact HE.out
set_option maxHeartbeats 4000000 in
set_option maxRecDepth 100000 in
/-- a key that is there -/
theorem put_old (S B : Nat) (key val : List UInt8) (v : Value) (l : List PairP) (w : World) (hB : w.heap[B]? = some (.cells #[v] 80 (0, 0))) (ho : OwnP S w v l) (hk : OkPs l) (hf : fullK l key val = false) (hi : isK l key = true) (hS : S ≤ w.heap.size) :
    Calls Tryd.prog 53 #[.pointer (some ⟨B, 0, none⟩), str key, str val] w fun e w' => ∃ v', e = .returned (vResK 1 [] ((oldK l key).ver + 1) (.slice none 0 0)) ∧ w'.heap[B]? = some (.cells #[v'] 80 (0, 0)) ∧ OwnP S w' v' (putL l key val) ∧ Chg (Zone B v) w w' ∧ (∀ g, v'.ownBlock = some g → v.ownBlock = some g ∨ w.heap.size ≤ g) := by
  obtain ⟨post, HP⟩ := hide (fun (e : Ending) (w' : World) => ∃ v', e = .returned (vResK 1 [] ((oldK l key).ver + 1) (.slice none 0 0)) ∧ w'.heap[B]? = some (.cells #[v'] 80 (0, 0)) ∧ OwnP S w' v' (putL l key val) ∧ Chg (Zone B v) w w' ∧ (∀ g, v'.ownBlock = some g → v.ownBlock = some g ∨ w.heap.size ≤ g))
  rw [HP.out]
  obtain ⟨ao, cap, rfl⟩ := owns_slice ho
  obtain ⟨W, hW⟩ := hide (w.alloc (.cells zeroRes.toArray 56))
  obtain ⟨R, hR⟩ := hide w.heap.size
  have HbW : Hid (Below w.heap.size w W) := by show Below _ _ _; rw [← hW.out]; exact (Below.refl _ _).alloc (Nat.le_refl _) _
  have HRW : Hid (W.heap[R]? = some (.cells zeroRes.toArray 56 (0, 0))) := by show _ = _; rw [← hW.out, ← hR.out]; exact hp_at _ _ rfl
  have HBW : Hid (W.heap[B]? = some (.cells #[.slice ao l.length cap] 80 (0, 0))) := by show _ = _; rw [HbW.out.block B (lt_of_block hB)]; exact hB
  have HoW : Hid (OwnP S W (.slice ao l.length cap) l) := own_below ho HbW.out
  have KF := Lib.hid (find_law key _ l _ W HoW.out.prs hk)
  obtain ⟨k, hkq⟩ := hide (place l key)
  have hkl : k ≤ l.length := by rw [← hkq.out]; exact place_le l key
  rw [hkq.out, hi] at KF
  have c0 := cell_n HBW.out 0 (v := .slice ao l.length cap) rfl
  obtain ⟨hkl0, hkey0⟩ := isK_at hi
  have hver0 := hk.ver _ (List.getElem_mem hkl0)
  have hold : oldK l key = l[place l key] := by unfold oldK; rw [if_pos hi, List.getD_eq_getElem?_getD, List.getElem?_eq_getElem hkl0]; rfl
  have hf' : val.length ≤ 64 ∧ l[place l key].ver ≠ 1099511627775 := by
    unfold fullK at hf
    rw [hi, hold] at hf
    simp at hf
    exact hf
  have hput : putL l key val = l.set (place l key) ⟨key, val, l[place l key].ver + 1⟩ := by
    unfold putL newK
    rw [hi, if_pos rfl, hold, List.set_eq_take_append_cons_drop, if_pos hkl0]
  rw [hold] at HP
  clear hold
  have hn32 := hk.n
  obtain ⟨q, hq⟩ := hide (isK l key)
  simp only [hkq.out] at hput hf' hver0 hkey0 hkl0 HP
  obtain ⟨n, hn⟩ := hide l.length
  have HS := Lib.hid hS
  have Hlt := Lib.hid (lt_of_block hB)
  rw [hn.out] at HBW c0 hkl hn32
  have HoW2 : Hid (W.ownsRow S 25 3 (.slice ao n cap) n (l.flatMap rowPair)) := by show World.ownsRow _ _ _ _ _ _ _; rw [← hn.out]; exact HoW.out
  rw [hn.out] at KF HP
  have hkn : k < n := by rw [← hn.out]; exact hkl0
  obtain ⟨g, rfl⟩ : ∃ g, ao = some ⟨g, 0, none⟩ := by
    rcases HoW2.out.2 with ⟨hv, h0⟩ | ⟨g, c, cur, hv, _⟩
    · omega
    · injection hv with e1; exact ⟨g, e1⟩
  obtain ⟨ve, hve⟩ := hide l[k].ver
  rw [hve.out] at hf' hput hver0 HP
  have Hput := Lib.hid hput
  have Hkey := Lib.hid hkey0
  obtain ⟨hf1, hf2⟩ := hf'
  have t1 : decide ((64 : Int) < (val.length : Int)) = false := decide_eq_false (by omega)
  have t2 : (ve == 1099511627775) = false := beq_eq_false_iff_ne.2 hf2
  have hwr : IntKind.i64.wrap (ve + 1) = ve + 1 := IntWalk.i64_in _ (by omega)
  have hki : (k : Int) < (n : Int) := by omega
  have Hf2 := Lib.hid hf2
  clear hB ho hk hf hS hi hf1 hf2 HoW hput hkey0
  go_enter Tryd.func53, Tryd.ntmps53
  go_upto_region 1 with fail
  rw [hW.out, hR.out]
  go_wp2_with fail
  refine KF.out.mono ?_
  rintro e w1 ⟨rfl, hb1⟩
  have H1 : Hid (w1.heap[B]? = some (.cells #[.slice (some ⟨g, 0, none⟩) n cap] 80 (0, 0))) := (hb1.block _ (lt_of_block HBW.out)).trans HBW.out
  have HR4 : Hid (w1.heap[R]? = some (.cells zeroRes.toArray 56 (0, 0))) := (hb1.block _ (lt_of_block HRW.out)).trans HRW.out
  have HO4 := Lib.hid (own_below HoW2.out hb1)
  have H4 : Hid (Below w.heap.size w w1) := HbW.out.trans (hb1.mono HbW.out.size)
  have HC4 : Hid (Chg (Zone B (.slice (some ⟨g, 0, none⟩) n cap)) w w1) := Chg.fresh _ H4.out
  have HgB : Hid (g ≠ B) := fun e => own_blk_ne HO4.out H1.out (by decide) (by rw [e]; simp [Value.ownBlock])
  have HgR : Hid (g ≠ R) := fun e => own_blk_ne HO4.out HR4.out (by decide) (by rw [e]; simp [Value.ownBlock])
  have HRB : Hid (R ≠ B) := blk_ne HR4.out H1.out (by decide)
  clear c0 hb1
  have c0 := cell_n H1.out 0 (v := .slice (some ⟨g, 0, none⟩) n cap) rfl
  obtain ⟨p0, p1, p2⟩ := own_pair HO4.out hkl0
  rw [hve.out] at p2
  have q1 := own_free HO4.out (k * 3 + 1)
  have q2 := own_free HO4.out (k * 3 + 2)
  clear p0
  dsimp only
  have HO6 : Hid (((w1.setCell ⟨g, k * 3 + 1, none⟩ (str val)).setCell ⟨g, k * 3 + 2, none⟩ (.int .i64 (ve + 1))).ownsRow S 25 3 (.slice (some ⟨g, 0, none⟩) n cap) n ((l.set k ⟨key, val, ve + 1⟩).flatMap rowPair)) := by
    have := own_setPair HO4.out hkl0 val (ve + 1)
    rw [Hkey.out] at this
    exact this
  have HC6 : Hid (Chg (fun j => j = g) w1 ((w1.setCell ⟨g, k * 3 + 1, none⟩ (str val)).setCell ⟨g, k * 3 + 2, none⟩ (.int .i64 (ve + 1)))) := (Chg.setCell (F := fun j => j = g) (a := ⟨g, k * 3 + 1, none⟩) w1 rfl _).trans (Chg.setCell (F := fun j => j = g) (a := ⟨g, k * 3 + 2, none⟩) _ rfl _)
  obtain ⟨W6, hW6⟩ := hide ((w1.setCell ⟨g, k * 3 + 1, none⟩ (str val)).setCell ⟨g, k * 3 + 2, none⟩ (.int .i64 (ve + 1)))
  rw [hW6.out] at HO6 HC6
  go_upto_region 11 with fail
  have hW6' : ((w1.setCell ⟨g, k * 3 + 1, none⟩ (str val)).setCell ⟨g, k * 3 + 2, none⟩ (.int .i64 (ve + 1))) = W6 := hW6.out
  try rw [hW6']
  clear p1 p2 q1 q2 c0 hW6'
  have HR6 : Hid (W6.heap[R]? = some (.cells zeroRes.toArray 56 (0, 0))) := HC6.out.at HR4.out (fun e => HgR.out e.symm)
  have HB6 : Hid (W6.heap[B]? = some (.cells #[.slice (some ⟨g, 0, none⟩) n cap] 80 (0, 0))) := HC6.out.at H1.out (fun e => HgB.out e.symm)
  have hk6 : k < (l.set k ⟨key, val, ve + 1⟩).length := by rw [List.length_set]; exact hkl0
  obtain ⟨p0, p1, p2⟩ := own_pair HO6.out hk6
  have p3 : W6.cell? ⟨g, k * 3 + 2, none⟩ = some (.int .i64 (ve + 1)) := by
    have e : (l.set k ⟨key, val, ve + 1⟩)[k] = ⟨key, val, ve + 1⟩ := List.getElem_set_self _
    rw [e] at p2; exact p2
  clear p0 p1 p2
  obtain ⟨r0, r1, r2, r3⟩ := four_cellsK HR6.out
  obtain ⟨f0, f1, f2, f3⟩ := four_freeK HR6.out
  have HEr : Hid ((setAll W6 R (rowRes 1 [] (ve + 1) (.slice none 0 0))).heap[R]? = some (.cells (rowRes 1 [] (ve + 1) (.slice none 0 0)).toArray 56 (0, 0))) := setAll_at (xs := zeroRes) HR6.out _ rfl
  have HE : Hid (post (.returned (vResK 1 [] (ve + 1) (.slice none 0 0))) (setAll W6 R (rowRes 1 [] (ve + 1) (.slice none 0 0)))) := by
    show post _ _
    rw [← HP.out]
    have hRw : w.heap.size ≤ R := by rw [hR.out]; exact Nat.le_refl _
    have hcR := setFrom_chg R (rowRes 1 [] (ve + 1) (.slice none 0 0)) W6 0
    refine ⟨_, rfl, setAll_other HB6.out HRB.out _, ?_, ?_, fun j hj => ?_⟩
    · show World.ownsRow _ _ _ _ _ _ _
      rw [Hput.out, List.length_set, hn.out]
      exact own_chg HO6.out hcR (fun j hj e => by
        have e1 : g = j := by simpa [Value.ownBlock] using hj
        exact HgR.out (e1.trans e))
    · refine ⟨hcR.os.trans (HC6.out.os.trans HC4.out.os), hcR.tape.trans (HC6.out.tape.trans HC4.out.tape), hcR.output.trans (HC6.out.output.trans HC4.out.output), Nat.le_trans HC4.out.size (Nat.le_trans HC6.out.size hcR.size), fun j h1 h2 => ?_⟩
      have hj4 : j < w1.heap.size := Nat.lt_of_lt_of_le h1 HC4.out.size
      have hj6 : j < W6.heap.size := Nat.lt_of_lt_of_le hj4 HC6.out.size
      refine (hcR.block j hj6 (fun e => by have e' : j = R := e; omega)).trans ((HC6.out.block j hj4 (fun e => ?_)).trans (HC4.out.block j h1 h2))
      have e' : j = g := e
      exact h2 (Or.inr (by rw [e']; simp [Value.ownBlock]))
    · exact Or.inl hj
  go_wp2_with fail
  change bodyPost _ _ _ Exit.ret _ (setAll W6 R (rowRes 1 [] (ve + 1) (.slice none 0 0)))
  generalize setAll W6 R (rowRes 1 [] (ve + 1) (.slice none 0 0)) = W9 at HE HEr ⊢
  clear r0 r1 r2 r3 f0 f1 f2 f3 p3
  obtain ⟨r0, r1, r2, r3⟩ := four_cellsK HEr.out
  refine bodyPost_ret (by simp [results, Tryd.results53, go_sem, r0, r1, r2, r3]; rfl) rfl ?_
  exact HE.out

theorem putK_val (l : List PairP) (key val : List UInt8) : (putK l key val).2.val = [] ∧ (putK l key val).2.keys = [] := by
  unfold putK
  split <;> exact ⟨rfl, rfl⟩
/-- what putting a key's value does -/
theorem put_law (S B : Nat) (key val : List UInt8) (v : Value) (l : List PairP) (w : World) (hB : w.heap[B]? = some (.cells #[v] 80 (0, 0))) (ho : OwnP S w v l) (hk : OkPs l) (hS : S ≤ w.heap.size) :
    Calls Tryd.prog 53 #[.pointer (some ⟨B, 0, none⟩), str key, str val] w fun e w' => ∃ v', e = .returned (vResK (putK l key val).2.kind [] (putK l key val).2.ver (.slice none 0 0)) ∧ w'.heap[B]? = some (.cells #[v'] 80 (0, 0)) ∧ OwnP S w' v' (putK l key val).1 ∧ Chg (Zone B v) w w' ∧ (∀ g, v'.ownBlock = some g → v.ownBlock = some g ∨ w.heap.size ≤ g) := by
  cases hf : fullK l key val
  · have e : putK l key val = (putL l key val, ⟨1, [], (oldK l key).ver + 1, []⟩) := by unfold putK; rw [hf]; rfl
    rw [e]
    cases hi : isK l key
    · have e1 : (oldK l key).ver + 1 = 1 := by rw [oldK_no hi]; rfl
      simp only [e1]
      exact put_new S B key val v l w hB ho hk hf hi hS
    · exact put_old S B key val v l w hB ho hk hf hi hS
  · have e : putK l key val = (l, ⟨4, [], 0, []⟩) := by unfold putK; rw [hf]; rfl
    rw [e]
    refine (put_full S B key val v l w hB ho hk hf).mono ?_
    rintro e w' ⟨he, hb⟩
    exact ⟨v, he, (hb.block B (lt_of_block hB)).trans hB, own_below ho hb, Chg.fresh _ hb, fun g hg => Or.inl hg⟩
end Go.Proofs.YtnmlkoidmacinaaDoor
