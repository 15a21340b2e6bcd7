/-
  The law TxnNumbers, walked: it answers true.
-/
import Derived.Test.YtnmlkoidmacinaaDoorTni
namespace Go.Proofs.YtnmlkoidmacinaaDoor
open Go.RowKit Wm Mm Tn Kv
set_option linter.unusedVariables false
set_option linter.unusedSimpArgs false

theorem wpList_append_srcG {P : Program} {w : World} {ops : Array Oper} {rest : List Oper} {o : Oper} {a : Act} {Q : Exit → Act → World → Prop} (hw : Region.wanted o (yielded ops a.tmps) = true) (s x : Operand) (t tx : TypeId)
    (ho : o.op = .call { callee := .builtin .append, args := #[s, x], argTypes := #[t, tx] })
    (base : Nat) (e : TypeId) (z : Value) (size bytes : Nat) (ht : P.underlying t = some (.slice e))
    (hinfo : (P.info? e).map (fun i => (i.zero, i.size, i.bytes)) = some (some z, size, bytes)) (hzs : z.cells.size = size)
    (v : Value) (n : Nat) (xs : List Value) (hs : a.eval s = v) (hown : w.ownsRow base e size v n xs)
    (xv : Value) (m : Nat) (news : List Value) (hx : a.eval x = xv) (hsrc : Src P size tx xv m news w)
    (h63 : n + m ≤ maxLen) (hbytes : (n + m) * bytes ≤ 140737488355328) (hbase : base ≤ w.heap.size)
    (h : ∀ v' w', w'.ownsRow base e size v' (n + m) (xs ++ news) → w.grownBy w' v.ownBlock → wpList P ops Q rest (a.put o.dst v') w') :
    wpList P ops Q (o :: rest) a w := by
  obtain ⟨i, hi, hz0, hz1, hz2⟩ := info_parts hinfo
  refine wpList_step fun K hK => ?_
  rw [if_pos hw]
  obtain ⟨v', w', hr, h2, h3⟩ := run_append_src (P := P) w base t tx o.type e i z size bytes ht hi hz0 hz1 hz2 hzs v n xs hown xv m news hsrc h63 hbytes hbase
  unfold Oper.wp execOp
  simp only [ho, resolve, invoke, builtin, Sem.run_bind, Sem.run_pure, Result.andThen_ok, List.map_toArray, List.map_cons, List.map_nil, hs, hx, hr]
  exact hK _ _ (h v' w' h2 h3)
def knownP : List PairP := [⟨[107, 97], [51, 32, 55, 32, 57], 1⟩, ⟨[116, 55], [100, 111, 110, 101], 2⟩]
theorem known_9 : numberP knownP [97] = 9 := by
  have h1 : getP knownP [107, 97] = [51, 32, 55, 32, 57] := by decide +kernel
  have h2 : heldV [51, 32, 55, 32, 57] = (3, 7, 9) := by decide +kernel
  have h3 : Lib.decDigits 7 = [55] := dec_small (by decide)
  have h4 : getP knownP [116, 55] = [100, 111, 110, 101] := by decide +kernel
  unfold numberP
  rw [h1, h2]
  dsimp only
  rw [h3, h4]
  decide
set_option maxHeartbeats 4000000 in
set_option maxRecDepth 100000 in
theorem law_numbers (lv : Value) (l : List PairP) (F : Nat → Prop) (key : List UInt8) (w : World) (hl : Prs F w lv l) (hn : l.length ≤ 3518437208780) (hk : key.length ≤ 1099511627776000) (hv : VarsOk w) :
    Calls Tryd.prog 3 #[lv, str key] w fun e w' => e = .returned (.bool true) ∧ Below w.heap.size w w' := by
  obtain ⟨post, HP⟩ := hide (fun (e : Ending) (w' : World) => e = .returned (.bool true) ∧ Below w.heap.size w w')
  rw [HP.out]
  obtain ⟨ao, cap, rfl, hcap, hmax⟩ := hl.slice
  have HV : Hid (∀ w', Below w.heap.size w w' → VarsOk w') := fun w' hb => hv.below hb
  have HL : Hid (∀ w', Below w.heap.size w w' → Prs (fun _ => True) w' (.slice ao l.length cap) l) := fun w' hb => (hl.frame (Plain.good _) (Agree.below hb)).weak (Plain.good _) (fun _ _ _ => trivial)
  have HE : Hid (∀ w1, Below w.heap.size w w1 → post (.returned (.bool true)) w1) := by
    show ∀ w1, _ → _
    intro w1 h1
    rw [← HP.out]
    exact ⟨rfl, h1⟩
  have hb1 : Below w.heap.size w (w.alloc (.cells #[str [107, 97], str [51, 32, 55, 32, 57], .int .i64 1, str [116, 55], str [100, 111, 110, 101], .int .i64 2] 25)) := (Below.refl _ _).alloc (Nat.le_refl _) _
  have hk1 : OwnP w.heap.size (w.alloc (.cells #[str [107, 97], str [51, 32, 55, 32, 57], .int .i64 1, str [116, 55], str [100, 111, 110, 101], .int .i64 2] 25)) (.slice (some ⟨w.heap.size, 0, none⟩) 2 2) knownP := Mm.own_lit w 25 3 2 #[str [107, 97], str [51, 32, 55, 32, 57], .int .i64 1, str [116, 55], str [100, 111, 110, 101], .int .i64 2] rfl (by unfold maxLen; decide)
  have HK : Hid (Calls Tryd.prog 5 #[.slice (some ⟨w.heap.size, 0, none⟩) 2 2, str [97]] (w.alloc (.cells #[str [107, 97], str [51, 32, 55, 32, 57], .int .i64 1, str [116, 55], str [100, 111, 110, 101], .int .i64 2] 25)) fun e w' => e = .returned (.int .i64 9) ∧ Below (w.alloc (.cells #[str [107, 97], str [51, 32, 55, 32, 57], .int .i64 1, str [116, 55], str [100, 111, 110, 101], .int .i64 2] 25)).heap.size (w.alloc (.cells #[str [107, 97], str [51, 32, 55, 32, 57], .int .i64 1, str [116, 55], str [100, 111, 110, 101], .int .i64 2] 25)) w') := by
    have h := numProg_law _ knownP _ [97] _ hk1.prs (by decide) (by decide) (HV.out _ hb1)
    rw [known_9] at h
    exact h
  have HB1 := Lib.hid hb1
  have Hnl : Hid (l.length ≤ 3518437208780) := hn
  have HR : Hid (∀ w1, Below w.heap.size w w1 → Calls Tryd.prog 6 #[.slice ao l.length cap, str key] w1 fun e w' => e = .returned (.int .i64 (numberP l key)) ∧ Below w1.heap.size w1 w') := fun w1 hb => numRef_law _ l _ key w1 (HL.out w1 hb) (by have := Hnl.out; omega) hk (HV.out w1 hb)
  have HM : Hid (∀ w1, Below w.heap.size w w1 → Calls Tryd.prog 7 #[.slice ao l.length cap] w1 fun e w' => e = .returned (.bool (pairsB l)) ∧ Below w1.heap.size w1 w') := fun w1 hb => ref_isPairs _ l w1 (Sl.pairs (HL.out w1 hb))
  have HN : Hid (∀ v w1, Below w.heap.size w w1 → Prs (fun _ => True) w1 v l → Calls Tryd.prog 5 #[v, str key] w1 fun e w' => e = .returned (.int .i64 (numberP l key)) ∧ Below w1.heap.size w1 w') := fun v w1 hb h => numProg_law v l _ key w1 h (by have := Hnl.out; omega) hk (HV.out w1 hb)
  obtain ⟨z, hz⟩ := hide (numberP l key)
  rw [hz.out] at HR HN
  clear hl hv hk hcap hmax hn hb1 hk1
  go_enter Tryd.func3, Tryd.ntmps3
  go_wp2_with fail
  refine HK.out.mono ?_
  rintro e w1 ⟨rfl, hb1⟩
  have Hb1 : Hid (Below w.heap.size w w1) := HB1.out.trans (hb1.mono HB1.out.size)
  clear hb1
  dsimp only
  go_wp2_with fail
  refine (HR.out w1 Hb1.out).mono ?_
  rintro e w2 ⟨rfl, hb2⟩
  have Hb2 : Hid (Below w.heap.size w w2) := Hb1.out.trans (hb2.mono Hb1.out.size)
  clear hb2
  dsimp only
  go_wp2_with fail
  refine (HM.out w2 Hb2.out).mono ?_
  rintro e w3 ⟨rfl, hb3⟩
  have Hb3 : Hid (Below w.heap.size w w3) := Hb2.out.trans (hb3.mono Hb2.out.size)
  clear hb3
  dsimp only
  cases hm : pairsB l with
  | false =>
    clear hm
    go_wp2_with fail
    exact HE.out _ Hb3.out
  | true =>
    clear hm
    have HpV : Hid (Prs (fun _ => True) w3 (.slice ao l.length cap) l) := HL.out w3 Hb3.out
    obtain ⟨n, hn⟩ := hide l.length
    have HsV : Hid (Src Tryd.prog 3 22 (.slice ao n cap) n (l.flatMap rowPair) w3) := by
      have h := src_sl (P := Tryd.prog) (tx := 22) rowPair Tryd.underlying22 (by decide) rowPair_len rowPair_one HpV.out
      rw [hn.out] at h
      exact h
    have Hnn : Hid (n ≤ 3518437208780) := by show _ ≤ _; rw [← hn.out]; exact Hnl.out
    have Hnil : Hid (w3.ownsRow w3.heap.size 25 3 (.slice none 0 0) 0 []) := World.ownsRow_nil _ _ _ _
    rw [hn.out]
    go_wp2_with (at_builtin; refine wpList_append_srcG (by first | rfl | (go_simp; done)) _ _ 22 22 rfl w3.heap.size 25 _ 3 40 Tryd.underlying22 info_pairK rfl _ _ _ rfl Hnil.out _ _ _ rfl HsV.out (by have := Hnn.out; unfold maxLen; omega) (by have := Hnn.out; omega) (Nat.le_refl _) ?_)
    intro v4 w4 ho4 hg4
    obtain ⟨a4, c4, rfl⟩ := owns_slice ho4
    try simp only [Nat.zero_add, List.nil_append] at ho4
    try rw [Nat.zero_add]
    have Hb4 : Hid (Below w.heap.size w w4) := Hb3.out.trans ((grown_fresh0 hg4 (Nat.le_refl _)).mono Hb3.out.size)
    have HP4 : Hid (Prs (fun _ => True) w4 (.slice a4 n c4) l) := by
      have h : OwnP w3.heap.size w4 (.slice a4 n c4) l := by show World.ownsRow _ _ _ _ _ _ _; rw [hn.out]; exact ho4
      exact h.prs.weak (Plain.good _) (fun _ _ _ => trivial)
    clear ho4 hg4
    go_wp2_with fail
    refine (HN.out _ w4 Hb4.out HP4.out).mono ?_
    rintro e w5 ⟨rfl, hb5⟩
    have Hb5 : Hid (Below w.heap.size w w5) := Hb4.out.trans (hb5.mono Hb4.out.size)
    clear hb5
    dsimp only
    have qz : (z == z) = true := beq_iff_eq.2 rfl
    go_wp2_with fail
    exact HE.out _ Hb5.out
end Go.Proofs.YtnmlkoidmacinaaDoor
