/-
  Reading tables, the document's way.
-/
import Derived.Test.YtbonmeogmjfkeaaRy
import Derived.Test.YtbonmeogmjfkeaaRh
import Derived.Deep.CutBlock
namespace Go.Proofs.Ytbonmeogmjfkeaa
open Go.RowKit Wm Mm
set_option linter.unusedVariables false
set_option linter.unusedSimpArgs false

/-- what stands between the rounds: the result's cells, the reader, the local's cells -/
structure TSt (w W : World) (B : Nat) (vp vs : Value) (tm : Int) (σ : St) : Prop where
  res : W.heap[B]? = some (.cells tabZero.toArray 109 (0, 0))
  rs : Rs W (B + 1) σ
  loc : W.heap[B + 2]? = some (.cells #[vp, vs, .int .i64 tm] 109 (0, 0))
  bel : Below B w W
theorem TSt.lt {w W : World} {B : Nat} {vp vs : Value} {tm : Int} {σ : St} (h : TSt w W B vp vs tm σ) : B + 2 < W.heap.size := lt_of_block h.loc
theorem TSt.read {w W W' : World} {B : Nat} {vp vs : Value} {tm : Int} {σ σ' : St} (h : TSt w W B vp vs tm σ) (hr : Rs W' (B + 1) σ') (hg : W.grownBy W' (some (B + 1))) : TSt w W' B vp vs tm σ' :=
  ⟨(hg.block _ (lt_of_block h.res) (by simp)).trans h.res, hr, (hg.block _ (lt_of_block h.loc) (by simp)).trans h.loc, h.bel.trans (grown_below hg (by omega) (by have := h.lt; omega))⟩
/-- a row of pairs has taken the round's pair -/
theorem TSt.pushP {w wr W w2 : World} {B P n size : Nat} {T e : TypeId} {xs ys : List Value} {vp vs v' : Value} {tm : Int} {σ0 σ : St} (h : TSt w wr B vp vs tm σ0) (hi : It wr W (B + 1) P T xs σ) (ho : wr.ownsRow (B + 3) e size vp n ys) (hg : W.grownBy w2 vp.ownBlock) :
    TSt w (w2.setCell ⟨B + 2, 0, none⟩ v') B v' vs tm σ := by
  have ho1 : W.ownsRow (B + 3) e size vp n ys := ho.kept hi.g (Or.inr (own_other ho (by omega)).symm)
  have hl := h.lt
  have e0 : w2.heap[B]? = wr.heap[B]? := (hg.block _ (by have := hi.g.size; omega) (own_other ho1 (by omega))).trans (hi.g.block _ (by omega) (by simp))
  have e2 : w2.heap[B + 2]? = wr.heap[B + 2]? := (hg.block _ (by have := hi.g.size; omega) (own_other ho1 (by omega))).trans (hi.g.block _ (by omega) (by simp))
  have hb : Below B wr w2 := by
    refine (grown_below hi.g (by omega) (by omega)).trans ?_
    exact below_own ho1 hg (by omega) (by have := hi.g.size; omega)
  refine ⟨hp_set_other (e0.trans h.res) (by simp), (hi.rs.kept hg (own_other ho1 (by omega))).other' (by simp) _, ?_, (h.bel.trans hb).setCell (by simp) _⟩
  rw [heap_setCell, if_pos rfl, e2, h.loc]; simp [storeIn]
/-- a row of sessions has taken the round's session -/
theorem TSt.pushS {w wr W w2 : World} {B P n size : Nat} {T e : TypeId} {xs ys : List Value} {vp vs v' : Value} {tm : Int} {σ0 σ : St} (h : TSt w wr B vp vs tm σ0) (hi : It wr W (B + 1) P T xs σ) (ho : wr.ownsRow (B + 3) e size vs n ys) (hg : W.grownBy w2 vs.ownBlock) :
    TSt w (w2.setCell ⟨B + 2, 1, none⟩ v') B vp v' tm σ := by
  have ho1 : W.ownsRow (B + 3) e size vs n ys := ho.kept hi.g (Or.inr (own_other ho (by omega)).symm)
  have hl := h.lt
  have e0 : w2.heap[B]? = wr.heap[B]? := (hg.block _ (by have := hi.g.size; omega) (own_other ho1 (by omega))).trans (hi.g.block _ (by omega) (by simp))
  have e2 : w2.heap[B + 2]? = wr.heap[B + 2]? := (hg.block _ (by have := hi.g.size; omega) (own_other ho1 (by omega))).trans (hi.g.block _ (by omega) (by simp))
  have hb : Below B wr w2 := by
    refine (grown_below hi.g (by omega) (by omega)).trans ?_
    exact below_own ho1 hg (by omega) (by have := hi.g.size; omega)
  refine ⟨hp_set_other (e0.trans h.res) (by simp), (hi.rs.kept hg (own_other ho1 (by omega))).other' (by simp) _, ?_, (h.bel.trans hb).setCell (by simp) _⟩
  rw [heap_setCell, if_pos rfl, e2, h.loc]; simp [storeIn]
theorem rdPairs_bind (k : Nat) (acc : List PairP) (u : List UInt8) : rdPairs (k + 1) acc u = bindR (rdText 16 u) fun x s1 => bindR (rdText 64 s1) fun y s2 => bindR (rdNum s2) fun n s3 => rdPairs k (acc ++ [⟨x, y, n⟩]) s3 := by
  rw [rdPairs]
  rcases rdText 16 u with z | ⟨x, s1⟩
  · rfl
  simp only [bindR]
  rcases rdText 64 s1 with z | ⟨y, s2⟩
  · rfl
  simp only [bindR]
  rcases rdNum s2 with z | ⟨n, s3⟩
  · rfl
  simp only [bindR]

theorem rdStrs_bind (k : Nat) (acc : List (List UInt8)) (u : List UInt8) : rdStrs (k + 1) acc u = bindR (rdText 16 u) fun x s1 => rdStrs k (acc ++ [x]) s1 := by
  rw [rdStrs]
  rcases rdText 16 u with z | ⟨x, s1⟩
  · rfl
  simp only [bindR]

theorem rdRes_bind (s : List UInt8) : rdRes s = bindR (rdNum s) fun k s1 => bindR (rdText 64 s1) fun v s2 => bindR (rdNum s2) fun n s3 => bindR (rdUpTo 32 s3) fun m s4 => bindR (rdStrs m [] s4) fun l s5 => .ok (⟨k, v, n, l⟩, s5) := by
  unfold rdRes
  rcases rdNum s with z | ⟨k, s1⟩
  · rfl
  simp only [bindR]
  rcases rdText 64 s1 with z | ⟨v, s2⟩
  · rfl
  simp only [bindR]
  rcases rdNum s2 with z | ⟨n, s3⟩
  · rfl
  simp only [bindR]
  rcases rdUpTo 32 s3 with z | ⟨m, s4⟩
  · rfl
  simp only [bindR]
  rcases rdStrs m [] s4 with z | ⟨l, s5⟩
  · rfl
  simp only [bindR]

theorem rdSess_bind0 (k : Nat) (acc : List SessP) (u : List UInt8) : rdSess (k + 1) acc u = bindR (rdNum u) fun x s1 => bindR (rdNum s1) fun y s2 => bindR (rdNum s2) fun n s3 => bindR (rdRes s3) fun r s4 => rdSess k (acc ++ [⟨x, y, r.kind, r.val, r.ver, r.keys, n⟩]) s4 := by
  rw [rdSess]
  rcases rdNum u with z | ⟨x, s1⟩
  · rfl
  simp only [bindR]
  rcases rdNum s1 with z | ⟨y, s2⟩
  · rfl
  simp only [bindR]
  rcases rdNum s2 with z | ⟨n, s3⟩
  · rfl
  simp only [bindR]
  rcases rdRes s3 with z | ⟨r, s4⟩
  · rfl
  simp only [bindR]

theorem rdSess_bind (k : Nat) (acc : List SessP) (u : List UInt8) : rdSess (k + 1) acc u = bindR (rdNum u) fun x s1 => bindR (rdNum s1) fun y s2 => bindR (rdNum s2) fun n s3 => bindR (rdNum s3) fun a s4 => bindR (rdText 64 s4) fun v s5 => bindR (rdNum s5) fun c s6 => bindR (rdUpTo 32 s6) fun m s7 => bindR (rdStrs m [] s7) fun l s8 => rdSess k (acc ++ [⟨x, y, a, v, c, l, n⟩]) s8 := by
  rw [rdSess_bind0]
  simp only [rdRes_bind, bindR_assoc]
  rfl

theorem rdTabS_bind (tm : Nat) (ps : List PairP) (s : List UInt8) : rdTabS tm ps s = bindR (rdUpTo 8 s) fun m s1 => bindR (rdSess m [] s1) fun ss s2 => rdTabE tm ps ss s2 := by
  unfold rdTabS
  rcases rdUpTo 8 s with z | ⟨m, s1⟩
  · rfl
  simp only [bindR]
  rcases rdSess m [] s1 with z | ⟨ss, s2⟩
  · rfl
  simp only [bindR]

theorem rdTab_bind (s : List UInt8) : rdTab s = bindR (rdNum s) fun tm s1 => bindR (rdUpTo 32 s1) fun m s2 => bindR (rdPairs m [] s2) fun ps s3 => rdTabS tm ps s3 := by
  unfold rdTab
  rcases rdNum s with z | ⟨tm, s1⟩
  · rfl
  simp only [bindR]
  rcases rdUpTo 32 s1 with z | ⟨m, s2⟩
  · rfl
  simp only [bindR]
  rcases rdPairs m [] s2 with z | ⟨ps, s3⟩
  · rfl
  simp only [bindR]


/-- append of one element that was just laid: where the new row lies, too -/
theorem wpList_pushl {P : Program} {w : World} {ops : Array Oper} {rest : List Oper} {o : Oper} {a : Act} {Q : Exit → Act → World → Prop} (hgd : o.guard = none) (s x : Operand) (t : TypeId)
    (ho : o.op = .call { callee := .builtin .append, args := #[s, x], argTypes := #[t, t] })
    (base : Nat) (e : TypeId) (z : Value) (size bytes : Nat) (ht : P.underlying t = some (.slice e))
    (hinfo : (P.info? e).map (fun i => (i.zero, i.size, i.bytes)) = some (some z, size, bytes)) (hzs : z.cells.size = size) (hsz : 0 < size)
    (v : Value) (n : Nat) (xs : List Value) (hs : a.eval s = v) (hown : w.ownsRow base e size v n xs)
    (cs : Array Value) (hx : a.eval x = .slice (some ⟨w.heap.size, 0, none⟩) 1 1) (hcs : cs.size = size) (h1 : ∀ u ∈ cs.toList, u.oneCell' = true)
    (h63 : n + 1 ≤ maxLen) (hbytes : (n + 1) * bytes ≤ 140737488355328) (hbase : base ≤ w.heap.size)
    (h : ∀ g cap w', w'.ownsRow base e size (.slice (some ⟨g, 0, none⟩) (n + 1) cap) (n + 1) (xs ++ cs.toList) → w.grownBy w' v.ownBlock → (v.ownBlock = some g ∨ w.heap.size ≤ g) → wpList P ops Q rest (a.put o.dst (.slice (some ⟨g, 0, none⟩) (n + 1) cap)) w') :
    wpList P ops Q (o :: rest) a (w.alloc (.cells cs e)) := by
  obtain ⟨i, hi, hz0, hz1, hz2⟩ := info_parts hinfo
  refine wpList_append_lies (w.alloc (.cells cs e)) hgd s x t ho base e i z size bytes ht hi hz0 hz1 hz2 hzs hsz v n xs hs (hown.alloc _) ⟨w.heap.size, 0, none⟩ 1 1 cs.toList hx (by simp [hcs]) (World.news_of_block (cs := cs) (t := e) (fr := (0, 0)) (heap_alloc_new w _)) h1 (by decide) h63 hbytes (by simp; omega) (w.heap.size + 1) (by simp) ?_
  intro g cap w' h2 h3 h4 _
  exact h g cap w' h2 (grown_trans (World.grownBy_alloc w _ _) h3) (h4.imp id (fun e => by omega))
theorem TSt.putT {w W : World} {B : Nat} {vp vs : Value} {tm tm' : Int} {σ : St} (h : TSt w W B vp vs tm σ) : TSt w (W.setCell ⟨B + 2, 2, none⟩ (.int .i64 tm')) B vp vs tm' σ :=
  ⟨hp_set_other h.res (by simp), h.rs.other' (by simp) _, by rw [heap_setCell, if_pos rfl, h.loc]; simp [storeIn], h.bel.setCell (by simp) _⟩
/-- the round's session is in the row -/
theorem sessDone {wr W w5 : World} {B P : Nat} {T : TypeId} {xs : List Value} {σ : St} {vs v' vp kv : Value} {q : List (SessP × Value)} {acc2 : List SessP} {acc : List PairP} {s : SessP} (hi : It wr W (B + 1) P T xs σ)
    (hq : q.map (·.1) = acc2) (hown : wr.ownsRow (B + 3) 192 7 vs q.length (q.flatMap fun p => rowSess p.1 p.2)) (hk : ∀ p ∈ q, StrF (B + 3) vs.ownBlock wr p.2 p.1.keys) (hp : PairF (B + 3) vs.ownBlock wr vp acc) (hlt : B + 2 < wr.heap.size)
    (hs : W.ownsRow (P + 1) 9 1 kv s.keys.length (s.keys.map str)) (hg : W.grownBy w5 vs.ownBlock) (hown5 : w5.ownsRow (B + 3) 192 7 v' (q.length + 1) ((q.flatMap fun p => rowSess p.1 p.2) ++ rowSess s kv)) (hv : ∃ g, v'.ownBlock = some g ∧ (vs.ownBlock = some g ∨ W.heap.size ≤ g)) :
    SessO (B + 3) (w5.setCell ⟨B + 2, 1, none⟩ v') v' (acc2 ++ [s]) ∧ PairF (B + 3) v'.ownBlock (w5.setCell ⟨B + 2, 1, none⟩ v') vp acc := by
  have hPw := hi.hP
  have hup : Up (B + 3) wr W := Up.ofGrown hi.g (by omega)
  have hx : UpX (B + 3) vs.ownBlock W (w5.setCell ⟨B + 2, 1, none⟩ v') := fun k h1 h2 h3 => by
    rw [heap_setCell, if_neg (by simp; omega)]; exact hg.block k h2 h3
  have hown6 : (w5.setCell ⟨B + 2, 1, none⟩ v').ownsRow (B + 3) 192 7 v' (q.length + 1) ((q.flatMap fun p => rowSess p.1 p.2) ++ rowSess s kv) := LocSt.setOwn hown5 1 v'
  have hs2 : StrF (B + 3) vs.ownBlock W kv s.keys := RecsF.base (StrF.of_own vs.ownBlock hs (own_new hs (Nat.le_refl _) (fun g e => by have := (hown.lt g e).2; omega))) (fun _ _ h => h) (by omega)
  refine ⟨SessO.push (q := q) (H := 0) hq (fun p hp => (hk p hp).upx (fun _ _ h => h) (UpX.of hup none) (Nat.le_refl _) (fun _ _ _ hx => ⟨by simp, hx⟩)) hs2 hx hv hown6, ?_⟩
  have hp4 : PairF (B + 3) vs.ownBlock W vp acc := hp.upx (fun _ _ h => h) (UpX.of hup none) (Nat.le_refl _) (fun _ _ _ hx => ⟨by simp, hx⟩)
  obtain ⟨gg, hv1, hv2⟩ := hv
  exact hp4.upx (fun _ _ h => h) hx (Nat.le_refl _) (fun b _ hl hb => ⟨hb, fun e => by
    rw [hv1] at e
    rcases hv2 with h | h
    · exact hb (e.trans h.symm)
    · injection e with e; omega⟩)

set_option maxHeartbeats 8000000 in
set_option maxRecDepth 100000 in
theorem ref_getTable (s : List UInt8) (w : World) (hs : s.length ≤ 9223372036854775807) :
    Calls Try.prog 68 #[str s] w (GotTab w (full (rdTab s))) := by
  obtain ⟨res, HR⟩ := hide (rdTab s)
  rw [HR.out]
  obtain ⟨post, HP⟩ := hide (GotTab w (full res))
  rw [HP.out]
  obtain ⟨B, hB⟩ := hide w.heap.size
  have k0 : Cps res rdTab (.ok s) := HR.out
  have k1 := Cps.bind 0 rdNum_err' (k0.of rdTab_bind)
  have k2 := Cps.bind 0 (fun _ _ => rdUpTo_err) k1
  obtain ⟨tm, htm⟩ := hide (stepV 0 rdNum (.ok s))
  obtain ⟨σ1, hs1⟩ := hide (stepS rdNum (.ok s))
  rw [htm.out, hs1.out] at k2
  have hm32 := stepV_upTo_le 32 σ1
  obtain ⟨m, hm⟩ := hide (stepV 0 (rdUpTo 32) σ1)
  obtain ⟨σ2, hs2⟩ := hide (stepS (rdUpTo 32) σ1)
  rw [hm.out, hs2.out] at k2
  rw [hm.out] at hm32
  have K2 := Lib.hid k2
  clear k0 k1 k2
  obtain ⟨V0, hV⟩ := hide (((w.alloc (.cells tabZero.toArray 109)).alloc (.cells #[str s, .int .i64 0] 144)).alloc (.cells tabZero.toArray 109))
  have hT0 : TSt w V0 B (.slice none 0 0) (.slice none 0 0) 0 (.ok s) := by
    rw [← hV.out, ← hB.out]
    refine ⟨?_, ⟨?_, hs⟩, hp_at _ _ (by simp), ?_⟩
    · exact (hp_past _ _ (by simp only [World.size_alloc]; omega)).trans ((hp_past _ _ (by simp only [World.size_alloc]; omega)).trans (hp_at _ _ rfl))
    · exact (hp_past _ _ (by simp only [World.size_alloc]; omega)).trans (hp_at _ _ (by simp only [World.size_alloc]))
    · exact (((Below.refl _ _).alloc (Nat.le_refl _) _).alloc (by simp) _).alloc (by simp; omega) _
  have HT0 := Lib.hid hT0
  have HN := Lib.hid (number_rs hT0.rs)
  rw [htm.out, hs1.out] at HN
  clear hT0
  go_enter Try.func68, Try.ntmps68
  go_upto_region 3 with fail
  rw [hV.out, hB.out]
  rw [show B + 1 + 1 = B + 2 from rfl]
  go_wp2_with fail
  refine HN.out.mono ?_
  rintro e w1 ⟨rfl, hr1, hg1⟩
  have hT1 := HT0.out.read hr1 hg1
  have c2 := cell_n hT1.loc 2 (v := .int .i64 0) rfl
  have f2 := free_n hT1.loc 2
  have hT2 : TSt w (w1.setCell ⟨B + 2, 2, none⟩ (.int .i64 (tm : Nat))) B (.slice none 0 0) (.slice none 0 0) (tm : Nat) σ1 := hT1.putT
  obtain ⟨W2, hW2⟩ := hide (w1.setCell ⟨B + 2, 2, none⟩ (.int .i64 (tm : Nat)))
  rw [hW2.out] at hT2
  have HT2 := Lib.hid hT2
  have HU := Lib.hid (upTo_rs 32 hT2.rs)
  rw [hm.out, hs2.out] at HU
  clear hr1 hg1 hT1 hT2
  go_upto_region 4 with fail
  rw [hW2.out]
  clear c2 f2
  go_wp2_with fail
  refine HU.out.mono ?_
  rintro e w3 ⟨rfl, hr3, hg3⟩
  have HT3 := Lib.hid (HT2.out.read hr3 hg3)
  clear hr3 hg3
  go_upto_block 0 with fail
  go_cut [7] (fun _ wx => ∃ acc : List PairP, ∃ vp : Value, ∃ σ : St, Hid (acc.length ≤ 32) ∧ Hid (TSt w wx B vp (.slice none 0 0) (tm : Nat) σ) ∧ Hid (wx.ownsRow (B + 3) 188 3 vp acc.length (acc.flatMap rowPair)) ∧ Hid (Cps res (fun u => rdTabS tm acc u) σ))
  case first =>
    go_wp2_with fail
    go_loopw [7] (fun i wr => ∃ j : Nat, ∃ acc : List PairP, ∃ vp : Value, ∃ σ : St, i = .int .i64 j ∧ j ≤ m ∧ Hid (acc.length = j) ∧ Hid (TSt w wr B vp (.slice none 0 0) (tm : Nat) σ) ∧ Hid (wr.ownsRow (B + 3) 188 3 vp acc.length (acc.flatMap rowPair)) ∧ Hid (Cps res (fun u => bindR (rdPairs (m - j) acc u) fun ps s3 => rdTabS tm ps s3) σ))
      (fun i _ => m - (intOf i).toNat)
    case atStart => exact ⟨0, [], _, σ2, rfl, Nat.zero_le _, rfl, HT3, World.ownsRow_nil _ _ _ _, K2⟩
    case round =>
      obtain ⟨j, acc, vp, σ, rfl, hj, hl, ht, ho, hc⟩ := hrel
      obtain ⟨ao, cp, rfl⟩ := owns_slice ho.out
      by_cases hlt : j < m
      · cases σ with
        | error z =>
          have r1 := two_cell1 ht.out.rs.1
          have hz : (z == 0) = false := beq_eq_false_iff_ne.2 ht.out.rs.2
          have Hc2 : Hid (Cps res (fun u => rdTabS tm acc u) (.error z)) := hc.out.err
          have Hl2 : Hid (acc.length ≤ 32) := by have := hl.out; show _ ≤ _; omega
          go_wp2_with fail
          go_meet
          exact ⟨acc, _, _, Hl2, ht, ho, Hc2⟩
        | ok u =>
          have r1 := two_cell1 ht.out.rs.1
          have k3 : Cps res _ (.ok u) := hc.out.of (K' := fun u => bindR (rdText 16 u) fun x s1 => bindR (rdText 64 s1) fun y s2 => bindR (rdNum s2) fun n s3 => bindR (rdPairs (m - (j + 1)) (acc ++ [⟨x, y, n⟩]) s3) fun ps s3 => rdTabS tm ps s3) (fun u => by
            rw [show m - j = (m - (j + 1)) + 1 from by omega, rdPairs_bind]; simp only [bindR_assoc])
          have k4 := Cps.bind [] (fun _ _ => rdText_err) k3
          have k5 := Cps.bind [] (fun _ _ => rdText_err) k4
          have k6 := Cps.bind 0 rdNum_err' k5
          obtain ⟨x, hx⟩ := hide (stepV [] (rdText 16) (.ok u))
          obtain ⟨τ1, ht1⟩ := hide (stepS (rdText 16) (.ok u))
          rw [hx.out, ht1.out] at k6
          obtain ⟨y, hy⟩ := hide (stepV [] (rdText 64) τ1)
          obtain ⟨τ2, ht2⟩ := hide (stepS (rdText 64) τ1)
          rw [hy.out, ht2.out] at k6
          obtain ⟨n, hn⟩ := hide (stepV 0 rdNum τ2)
          obtain ⟨τ3, ht3⟩ := hide (stepS rdNum τ2)
          rw [hn.out, ht3.out] at k6
          have K6 := Lib.hid k6
          have hi0 := It.lay (T := 188) (xs := [str [], str [], .int .i64 0]) ((⟨rfl, rfl, rfl, Nat.le_refl _, fun _ _ _ => rfl⟩ : wr.grownBy wr (some (B + 1)))) ht.out.rs (by have := ht.out.lt; omega)
          obtain ⟨V1, hV1⟩ := hide (wr.alloc (.cells [str [], str [], .int .i64 0].toArray 188))
          rw [hV1.out] at hi0
          obtain ⟨P, hP⟩ := hide wr.heap.size
          rw [hP.out] at hi0
          have Hi0 := Lib.hid hi0
          clear k3 k4 k5 k6 hi0
          go_upto_region 9 with fail
          rw [hV1.out, hP.out]
          clear r1
          go_wp2_with fail
          refine (text_rs 16 (Hi0.out).rs).mono ?_
          rw [hx.out, ht1.out]
          rintro e v1 ⟨rfl, hr, hg⟩
          have Ha1 := Lib.hid ((Hi0.out).read hr hg)
          have c1 := cell_n Ha1.out.loc 0 (v := str []) rfl
          have f1 := free_n Ha1.out.loc 0
          have Hi1 := Lib.hid (Ha1.out.put 0 (str x))
          obtain ⟨V2, hV2⟩ := hide (v1.setCell ⟨P, 0, none⟩ (str x))
          rw [hV2.out] at Hi1
          clear hr hg
          go_upto_region 10 with fail
          rw [hV2.out]
          clear c1 f1
          go_wp2_with fail
          refine (text_rs 64 (Hi1.out).rs).mono ?_
          rw [hy.out, ht2.out]
          rintro e v2 ⟨rfl, hr, hg⟩
          have Ha2 := Lib.hid ((Hi1.out).read hr hg)
          have c1 := cell_n Ha2.out.loc 1 (v := str []) rfl
          have f1 := free_n Ha2.out.loc 1
          have Hi2 := Lib.hid (Ha2.out.put 1 (str y))
          obtain ⟨V3, hV3⟩ := hide (v2.setCell ⟨P, 1, none⟩ (str y))
          rw [hV3.out] at Hi2
          clear hr hg
          go_upto_region 11 with fail
          rw [hV3.out]
          clear c1 f1
          go_wp2_with fail
          refine (number_rs (Hi2.out).rs).mono ?_
          rw [hn.out, ht3.out]
          rintro e v3 ⟨rfl, hr, hg⟩
          have Ha3 := Lib.hid ((Hi2.out).read hr hg)
          have c1 := cell_n Ha3.out.loc 2 (v := .int .i64 0) rfl
          have f1 := free_n Ha3.out.loc 2
          have Hi3 := Lib.hid (Ha3.out.put 2 (.int .i64 (n : Nat)))
          obtain ⟨V4, hV4⟩ := hide (v3.setCell ⟨P, 2, none⟩ (.int .i64 (n : Nat)))
          rw [hV4.out] at Hi3
          clear hr hg
          go_upto_region 12 with fail
          rw [hV4.out]
          clear c1 f1
          have hi3 := Hi3.out
          simp only [List.set] at hi3
          have hq := (hi3.g.block (B + 2) (by have := ht.out.lt; omega) (by simp)).trans ht.out.loc
          have c0 := cell_n hq 0 (v := .slice ao acc.length cp) rfl
          have d0 := cell_n hi3.loc 0 (v := str x) rfl
          have d1 := cell_n hi3.loc 1 (v := str y) rfl
          have d2 := cell_n hi3.loc 2 (v := .int .i64 (n : Nat)) rfl
          have Ho1 := Lib.hid (ho.out.kept hi3.g (Or.inr (own_other ho.out (by omega)).symm))
          have hBs : B + 3 ≤ V4.heap.size := by have := ht.out.lt; have := hi3.g.size; omega
          have Hal : Hid (acc.length + 1 ≤ 32) := by have := hl.out; show _ ≤ _; omega
          have Hi3' := Lib.hid hi3
          clear hq hi3
          go_wp2_with (at_builtin; refine wpList_push rfl _ _ 106 rfl (B + 3) 188 _ 3 40 Try.underlying106 info_pair rfl (by decide) _ _ _ rfl Ho1.out _ rfl rfl (by intro u hu; simp at hu; rcases hu with rfl | rfl | rfl <;> rfl) (by have := Hal.out; unfold maxLen; omega) (by have := Hal.out; omega) hBs ?_)
          intro v' w9 ho9 hg9
          obtain ⟨ao', cp', rfl⟩ := owns_slice ho9
          have hT9 := TSt.pushP (v' := .slice ao' (acc.length + 1) cp') ht.out Hi3'.out ho.out hg9
          have ho10 := LocSt.setOwn ho9 0 (.slice ao' (acc.length + 1) cp')
          have e1 : (acc ++ [(⟨x, y, n⟩ : PairP)]).length = acc.length + 1 := by simp
          have e2 : (acc ++ [(⟨x, y, n⟩ : PairP)]).flatMap rowPair = acc.flatMap rowPair ++ rowPair ⟨x, y, n⟩ := by simp
          have Ho10 : Hid ((w9.setCell ⟨B + 2, 0, none⟩ (.slice ao' (acc.length + 1) cp')).ownsRow (B + 3) 188 3 (.slice ao' (acc.length + 1) cp') (acc ++ [(⟨x, y, n⟩ : PairP)]).length ((acc ++ [(⟨x, y, n⟩ : PairP)]).flatMap rowPair)) := by show World.ownsRow _ _ _ _ _ _ _; rw [e1, e2]; exact ho10
          have HT9 := Lib.hid hT9
          have hl9 : w9.heap[B + 2]? = some (.cells #[.slice ao acc.length cp, .slice none 0 0, .int .i64 (tm : Nat)] 109 (0, 0)) := by
            have := Ho1.out
            refine (hg9.block _ (by have := Hi3'.out.g.size; have := ht.out.lt; omega) (own_other this (by omega))).trans ?_
            exact (Hi3'.out.g.block (B + 2) (by have := ht.out.lt; omega) (by simp)).trans ht.out.loc
          clear c0 d0 d1 d2
          have c0 := cell_n hl9 0 (v := .slice ao acc.length cp) rfl
          have f0 := free_n hl9 0
          clear hl9 hT9 ho9 hg9 ho10 e1 e2
          go_wp2_with fail
          go_roundw
          case rel => exact ⟨j + 1, acc ++ [⟨x, y, n⟩], _, τ3, by go_num, hlt, by have := hl.out; show _ = _; simp [this], HT9, Ho10, K6⟩
          case measure => simp [intOf]; omega
      · have hjm : j = m := by omega
        have Hc2 : Hid (Cps res (fun u => rdTabS tm acc u) σ) := hc.out.of (fun u => by rw [show m - j = 0 from by omega]; rfl)
        have Hl2 : Hid (acc.length ≤ 32) := by have := hl.out; show _ ≤ _; omega
        have Hjm := Lib.hid hjm
        clear hjm
        go_wp2_with fail
        go_meet
        exact ⟨acc, _, _, Hl2, ht, ho, Hc2⟩
  case rest =>
  obtain ⟨acc, vp, σ, Hl, HT, HO, HC⟩ := hcut

  obtain ⟨ao, cp, rfl⟩ := owns_slice HO.out
  have k1 := Cps.bind 0 (fun _ _ => rdUpTo_err) (HC.out.of (fun u => rdTabS_bind tm acc u))
  have hm8 := stepV_upTo_le 8 σ
  obtain ⟨m8, hm8'⟩ := hide (stepV 0 (rdUpTo 8) σ)
  obtain ⟨σ5, hs5⟩ := hide (stepS (rdUpTo 8) σ)
  rw [hm8'.out, hs5.out] at k1
  rw [hm8'.out] at hm8
  have K1 := Lib.hid k1
  have HU5 := Lib.hid (upTo_rs 8 HT.out.rs)
  rw [hm8'.out, hs5.out] at HU5
  have Hpf : Hid (PairF (B + 3) none wc (.slice ao acc.length cp) acc) := PairF.of_own none HO.out (fun _ _ => by simp)
  clear k1
  go_wp2_with fail
  refine HU5.out.mono ?_
  rintro e w5 ⟨rfl, hr5, hg5⟩
  have HT5 := Lib.hid (HT.out.read hr5 hg5)
  have hpf5 : PairF (B + 3) none w5 (.slice ao acc.length cp) acc := RecsF.upx Hpf.out (fun _ _ h => h) (UpX.of (Up.ofGrown hg5 (by omega)) none) (Nat.le_refl _) (fun _ _ _ _ => ⟨by simp, by simp⟩)
  have Hpf5 := Lib.hid hpf5
  clear hr5 hg5 hpf5
  go_upto_block 2 with fail
  go_cut [9] (fun _ wx => ∃ acc2 : List SessP, ∃ vs : Value, ∃ σ : St, Hid (TSt w wx B (.slice ao acc.length cp) vs (tm : Nat) σ) ∧ Hid (SessO (B + 3) wx vs acc2) ∧ Hid (PairF (B + 3) vs.ownBlock wx (.slice ao acc.length cp) acc) ∧ Hid (Cps res (fun u => rdTabE tm acc acc2 u) σ))
  case first =>
    go_wp2_with fail
    go_loopw [9] (fun i wr => ∃ j : Nat, ∃ acc2 : List SessP, ∃ vs : Value, ∃ σ : St, i = .int .i64 j ∧ j ≤ m8 ∧ Hid (acc2.length = j) ∧ Hid (TSt w wr B (.slice ao acc.length cp) vs (tm : Nat) σ) ∧ Hid (SessO (B + 3) wr vs acc2) ∧ Hid (PairF (B + 3) vs.ownBlock wr (.slice ao acc.length cp) acc) ∧ Hid (Cps res (fun u => bindR (rdSess (m8 - j) acc2 u) fun ss s3 => rdTabE tm acc ss s3) σ))
      (fun i _ => m8 - (intOf i).toNat)
    case atStart => exact ⟨0, [], _, σ5, rfl, Nat.zero_le _, rfl, HT5, SessO.nil _ _, Hpf5, K1⟩
    case round =>
      obtain ⟨j, acc2, vs, σ, rfl, hj, hl, ht, hso, hpf, hc⟩ := hrel
      by_cases hlt : j < m8
      · cases σ with
        | error z =>
          have r1 := two_cell1 ht.out.rs.1
          have hz : (z == 0) = false := beq_eq_false_iff_ne.2 ht.out.rs.2
          have Hc2 : Hid (Cps res (fun u => rdTabE tm acc acc2 u) (.error z)) := hc.out.err
          go_wp2_with fail
          go_meet
          exact ⟨acc2, _, _, ht, hso, hpf, Hc2⟩
        | ok u =>
          obtain ⟨q, hq, hown, hk⟩ := hso.out
          obtain ⟨so, sp, rfl⟩ := owns_slice hown
          have Hq := Lib.hid hq
          have Hown := Lib.hid hown
          have Hk := Lib.hid hk
          clear hq hown hk
          have r1 := two_cell1 ht.out.rs.1
          have k3 : Cps res _ (.ok u) := hc.out.of (K' := fun u => bindR (rdNum u) fun x s1 => bindR (rdNum s1) fun y s2 => bindR (rdNum s2) fun n s3 => bindR (rdNum s3) fun a s4 => bindR (rdText 64 s4) fun v s5 => bindR (rdNum s5) fun c s6 => bindR (rdUpTo 32 s6) fun m s7 => bindR (rdStrs m [] s7) fun l s8 => bindR (rdSess (m8 - (j + 1)) (acc2 ++ [⟨x, y, a, v, c, l, n⟩]) s8) fun ss s3 => rdTabE tm acc ss s3) (fun u => by
            rw [show m8 - j = (m8 - (j + 1)) + 1 from by omega, rdSess_bind]; simp only [bindR_assoc])
          have k4 := Cps.bind 0 rdNum_err' k3
          have k5 := Cps.bind 0 rdNum_err' k4
          have k6 := Cps.bind 0 rdNum_err' k5
          have k7 := Cps.bind 0 rdNum_err' k6
          have k8 := Cps.bind [] (fun _ _ => rdText_err) k7
          have k9 := Cps.bind 0 rdNum_err' k8
          have k10 := Cps.bind 0 (fun _ _ => rdUpTo_err) k9
          obtain ⟨a, hv0⟩ := hide (stepV 0 rdNum (.ok u))
          obtain ⟨τ0, ht0⟩ := hide (stepS rdNum (.ok u))
          rw [hv0.out, ht0.out] at k10
          obtain ⟨b, hv1⟩ := hide (stepV 0 rdNum τ0)
          obtain ⟨τ1, ht1⟩ := hide (stepS rdNum τ0)
          rw [hv1.out, ht1.out] at k10
          obtain ⟨n, hv2⟩ := hide (stepV 0 rdNum τ1)
          obtain ⟨τ2, ht2⟩ := hide (stepS rdNum τ1)
          rw [hv2.out, ht2.out] at k10
          obtain ⟨c, hv3⟩ := hide (stepV 0 rdNum τ2)
          obtain ⟨τ3, ht3⟩ := hide (stepS rdNum τ2)
          rw [hv3.out, ht3.out] at k10
          obtain ⟨y, hv4⟩ := hide (stepV [] (rdText 64) τ3)
          obtain ⟨τ4, ht4⟩ := hide (stepS (rdText 64) τ3)
          rw [hv4.out, ht4.out] at k10
          obtain ⟨d, hv5⟩ := hide (stepV 0 rdNum τ4)
          obtain ⟨τ5, ht5⟩ := hide (stepS rdNum τ4)
          rw [hv5.out, ht5.out] at k10
          obtain ⟨mk, hv6⟩ := hide (stepV 0 (rdUpTo 32) τ5)
          obtain ⟨τ6, ht6⟩ := hide (stepS (rdUpTo 32) τ5)
          rw [hv6.out, ht6.out] at k10
          have hmk : mk ≤ 32 := by have := stepV_upTo_le 32 τ5; rwa [hv6.out] at this
          have Kk := Lib.hid k10
          have hi0 := It.lay (T := 192) (xs := [.int .i64 0, .int .i64 0, .int .i64 0, str [], .int .i64 0, .slice none 0 0, .int .i64 0]) (⟨rfl, rfl, rfl, Nat.le_refl _, fun _ _ _ => rfl⟩ : wr.grownBy wr (some (B + 1))) ht.out.rs (by have := ht.out.lt; omega)
          obtain ⟨V1, hV1⟩ := hide (wr.alloc (.cells [.int .i64 0, .int .i64 0, .int .i64 0, str [], .int .i64 0, .slice none 0 0, .int .i64 0].toArray 192))
          rw [hV1.out] at hi0
          obtain ⟨P, hP⟩ := hide wr.heap.size
          rw [hP.out] at hi0
          have Hi0 := Lib.hid hi0
          clear k3 k4 k5 k6 k7 k8 k9 k10 hi0
          go_upto_region 18 with fail
          rw [hV1.out, hP.out]
          clear r1
          go_wp2_with fail
          refine (number_rs (Hi0.out).rs).mono ?_
          rw [hv0.out, ht0.out]
          rintro e v0 ⟨rfl, hr, hg⟩
          have Ha0 := Lib.hid ((Hi0.out).read hr hg)
          have c1 := cell_n Ha0.out.loc 0 (v := .int .i64 0) rfl
          have f1 := free_n Ha0.out.loc 0
          have Hi1 := Lib.hid (Ha0.out.put 0 (.int .i64 (a : Nat)))
          obtain ⟨V2, hV2⟩ := hide (v0.setCell ⟨P, 0, none⟩ (.int .i64 (a : Nat)))
          rw [hV2.out] at Hi1
          clear hr hg
          go_upto_region 19 with fail
          rw [hV2.out]
          clear c1 f1
          go_wp2_with fail
          refine (number_rs (Hi1.out).rs).mono ?_
          rw [hv1.out, ht1.out]
          rintro e v1 ⟨rfl, hr, hg⟩
          have Ha1 := Lib.hid ((Hi1.out).read hr hg)
          have c1 := cell_n Ha1.out.loc 1 (v := .int .i64 0) rfl
          have f1 := free_n Ha1.out.loc 1
          have Hi2 := Lib.hid (Ha1.out.put 1 (.int .i64 (b : Nat)))
          obtain ⟨V3, hV3⟩ := hide (v1.setCell ⟨P, 1, none⟩ (.int .i64 (b : Nat)))
          rw [hV3.out] at Hi2
          clear hr hg
          go_upto_region 20 with fail
          rw [hV3.out]
          clear c1 f1
          go_wp2_with fail
          refine (number_rs (Hi2.out).rs).mono ?_
          rw [hv2.out, ht2.out]
          rintro e v2 ⟨rfl, hr, hg⟩
          have Ha2 := Lib.hid ((Hi2.out).read hr hg)
          have c1 := cell_n Ha2.out.loc 6 (v := .int .i64 0) rfl
          have f1 := free_n Ha2.out.loc 6
          have Hi3 := Lib.hid (Ha2.out.put 6 (.int .i64 (n : Nat)))
          obtain ⟨V4, hV4⟩ := hide (v2.setCell ⟨P, 6, none⟩ (.int .i64 (n : Nat)))
          rw [hV4.out] at Hi3
          clear hr hg
          go_upto_region 21 with fail
          rw [hV4.out]
          clear c1 f1
          go_wp2_with fail
          refine (number_rs (Hi3.out).rs).mono ?_
          rw [hv3.out, ht3.out]
          rintro e v3 ⟨rfl, hr, hg⟩
          have Ha3 := Lib.hid ((Hi3.out).read hr hg)
          have c1 := cell_n Ha3.out.loc 2 (v := .int .i64 0) rfl
          have f1 := free_n Ha3.out.loc 2
          have Hi4 := Lib.hid (Ha3.out.put 2 (.int .i64 (c : Nat)))
          obtain ⟨V5, hV5⟩ := hide (v3.setCell ⟨P, 2, none⟩ (.int .i64 (c : Nat)))
          rw [hV5.out] at Hi4
          clear hr hg
          go_upto_region 22 with fail
          rw [hV5.out]
          clear c1 f1
          go_wp2_with fail
          refine (text_rs 64 (Hi4.out).rs).mono ?_
          rw [hv4.out, ht4.out]
          rintro e v4 ⟨rfl, hr, hg⟩
          have Ha4 := Lib.hid ((Hi4.out).read hr hg)
          have c1 := cell_n Ha4.out.loc 3 (v := str []) rfl
          have f1 := free_n Ha4.out.loc 3
          have Hi5 := Lib.hid (Ha4.out.put 3 (str y))
          obtain ⟨V6, hV6⟩ := hide (v4.setCell ⟨P, 3, none⟩ (str y))
          rw [hV6.out] at Hi5
          clear hr hg
          go_upto_region 23 with fail
          rw [hV6.out]
          clear c1 f1
          go_wp2_with fail
          refine (number_rs (Hi5.out).rs).mono ?_
          rw [hv5.out, ht5.out]
          rintro e v5 ⟨rfl, hr, hg⟩
          have Ha5 := Lib.hid ((Hi5.out).read hr hg)
          have c1 := cell_n Ha5.out.loc 4 (v := .int .i64 0) rfl
          have f1 := free_n Ha5.out.loc 4
          have Hi6 := Lib.hid (Ha5.out.put 4 (.int .i64 (d : Nat)))
          obtain ⟨V7, hV7⟩ := hide (v5.setCell ⟨P, 4, none⟩ (.int .i64 (d : Nat)))
          rw [hV7.out] at Hi6
          clear hr hg
          go_upto_region 24 with fail
          rw [hV7.out]
          clear c1 f1
          have hi6 := Hi6.out
          simp only [List.set] at hi6
          have Hi6' := Lib.hid hi6
          clear hi6
          go_wp2_with fail
          refine (upTo_rs 32 Hi6'.out.rs).mono ?_
          rw [hv6.out, ht6.out]
          rintro e v7 ⟨rfl, hr, hg⟩
          have Hi7 := Lib.hid (Hi6'.out.read hr hg)
          clear hr hg
          go_upto_block 4 with fail
          go_cut [12, 13] (fun _ _ wx => ∃ keys : List (List UInt8), ∃ kv : Value, ∃ σ : St, Hid (It wr wx (B + 1) P 192 [.int .i64 (a : Nat), .int .i64 (b : Nat), .int .i64 (c : Nat), str y, .int .i64 (d : Nat), kv, .int .i64 (n : Nat)] σ) ∧ Hid (wx.ownsRow (P + 1) 9 1 kv keys.length (keys.map str)) ∧ Hid (Cps res (fun u => (fun l s8 => bindR (rdSess (m8 - (j + 1)) (acc2 ++ [⟨a, b, c, y, d, l, n⟩]) s8) fun ss s3 => rdTabE tm acc ss s3) keys u) σ))
          case first =>
            go_wp2_with fail
            go_loopw [12, 13] (fun i _ wx => ∃ j3 : Nat, ∃ keys : List (List UInt8), ∃ kv : Value, ∃ σ : St, i = .int .i64 j3 ∧ j3 ≤ mk ∧ Hid (keys.length = j3) ∧ Hid (It wr wx (B + 1) P 192 [.int .i64 (a : Nat), .int .i64 (b : Nat), .int .i64 (c : Nat), str y, .int .i64 (d : Nat), kv, .int .i64 (n : Nat)] σ) ∧ Hid (wx.ownsRow (P + 1) 9 1 kv keys.length (keys.map str)) ∧ Hid (Cps res (fun u => bindR (rdStrs (mk - j3) keys u) (fun l s8 => bindR (rdSess (m8 - (j + 1)) (acc2 ++ [⟨a, b, c, y, d, l, n⟩]) s8) fun ss s3 => rdTabE tm acc ss s3)) σ))
              (fun i _ _ => mk - (intOf i).toNat)
            case atStart => exact ⟨0, [], _, τ6, rfl, Nat.zero_le _, rfl, Hi7, World.ownsRow_nil _ _ _ _, Kk⟩
            case round =>
              obtain ⟨j3, keys, kv, σ, rfl, hj3, hl3, hit, ho3, hc3⟩ := hrel
              obtain ⟨ko, kc, rfl⟩ := owns_slice ho3.out
              by_cases hlt3 : j3 < mk
              · cases σ with
                | error z =>
                  have r1 := two_cell1 hit.out.rs.1
                  have hz : (z == 0) = false := beq_eq_false_iff_ne.2 hit.out.rs.2
                  have Hc2 : Hid (Cps res (fun u => (fun l s8 => bindR (rdSess (m8 - (j + 1)) (acc2 ++ [⟨a, b, c, y, d, l, n⟩]) s8) fun ss s3 => rdTabE tm acc ss s3) keys u) (.error z)) := hc3.out.err
                  go_wp2_with fail
                  go_meet
                  exact ⟨keys, _, _, hit, ho3, Hc2⟩
                | ok u3 =>
                  have r1 := two_cell1 hit.out.rs.1
                  have k3 : Cps res _ (.ok u3) := hc3.out.of (K' := fun u => bindR (rdText 16 u) fun x s1 => bindR (rdStrs (mk - (j3 + 1)) (keys ++ [x]) s1) (fun l s8 => bindR (rdSess (m8 - (j + 1)) (acc2 ++ [⟨a, b, c, y, d, l, n⟩]) s8) fun ss s3 => rdTabE tm acc ss s3)) (fun u => by
                    rw [show mk - j3 = (mk - (j3 + 1)) + 1 from by omega, rdStrs_bind]; simp only [bindR_assoc])
                  have k4 := Cps.bind [] (fun _ _ => rdText_err) k3
                  obtain ⟨x, hx⟩ := hide (stepV [] (rdText 16) (.ok u3))
                  obtain ⟨π, hpi⟩ := hide (stepS (rdText 16) (.ok u3))
                  rw [hx.out, hpi.out] at k4
                  have K4 := Lib.hid k4
                  clear k3 k4
                  go_wp2_with fail
                  refine (text_rs 16 hit.out.rs).mono ?_
                  rw [hx.out, hpi.out]
                  rintro e z1 ⟨rfl, hr, hg⟩
                  clear r1
                  have Hz1 := Lib.hid (hit.out.read hr hg)
                  have c5 := cell_n Hz1.out.loc 5 (v := .slice ko keys.length kc) rfl
                  have Ho1 := Lib.hid (ho3.out.kept hg (Or.inr (own_other ho3.out (by have := hit.out.hP; have := hit.out.hR; omega)).symm))
                  have hBs : P + 1 ≤ z1.heap.size := lt_of_block Hz1.out.loc
                  have Hal : Hid (keys.length + 1 ≤ 32) := by have := hl3.out; show _ ≤ _; omega
                  clear hr hg
                  go_wp2_with (at_builtin; refine wpList_push rfl _ _ 62 rfl (P + 1) 9 _ 1 16 Try.underlying62 info_str rfl (by decide) _ _ _ rfl Ho1.out _ rfl rfl (by intro u hu; simp at hu; subst hu; rfl) (by have := Hal.out; unfold maxLen; omega) (by have := Hal.out; omega) hBs ?_)
                  intro v' z2 ho2 hg2
                  obtain ⟨ko', kc', rfl⟩ := owns_slice ho2
                  have Hz2 := Lib.hid (Hz1.out.row Ho1.out (Nat.lt_succ_self _) hg2)
                  clear c5
                  have c5 := cell_n Hz2.out.loc 5 (v := .slice ko keys.length kc) rfl
                  have f5 := free_n Hz2.out.loc 5
                  have Hz3 := Lib.hid (Hz2.out.put 5 (.slice ko' (keys.length + 1) kc'))
                  have e1 : (keys ++ [x]).length = keys.length + 1 := by simp
                  have e2 : (keys ++ [x]).map str = keys.map str ++ [str x] := by simp
                  have Ho3 : Hid ((z2.setCell ⟨P, 5, none⟩ (.slice ko' (keys.length + 1) kc')).ownsRow (P + 1) 9 1 (.slice ko' (keys.length + 1) kc') (keys ++ [x]).length ((keys ++ [x]).map str)) := by
                    show World.ownsRow _ _ _ _ _ _ _
                    rw [e1, e2]
                    exact own_up ho2 (Up.setCell (P + 1) z2 (a := ⟨P, 5, none⟩) (by simp) _) (Nat.le_refl _)
                  clear e1 e2 ho2 hg2
                  go_wp2_with fail
                  go_roundw
                  case rel => exact ⟨j3 + 1, keys ++ [x], _, π, by go_num, hlt3, by have := hl3.out; show _ = _; simp [this], Hz3, Ho3, K4⟩
                  case measure => simp [intOf]; omega
              · have hjm : j3 = mk := by omega
                have Hc2 : Hid (Cps res (fun u => (fun l s8 => bindR (rdSess (m8 - (j + 1)) (acc2 ++ [⟨a, b, c, y, d, l, n⟩]) s8) fun ss s3 => rdTabE tm acc ss s3) keys u) σ) := hc3.out.of (fun u => by rw [show mk - j3 = 0 from by omega]; rfl)
                have Hjm := Lib.hid hjm
                clear hjm
                go_wp2_with fail
                go_meet
                exact ⟨keys, _, _, hit, ho3, Hc2⟩
          case rest =>
          obtain ⟨keys, kv, σ9, HI, HK, HC9⟩ := hcut
          obtain ⟨ko, kc, rfl⟩ := owns_slice HK.out
          have hq2 := (HI.out.g.block (B + 2) (by have := ht.out.lt; omega) (by simp)).trans ht.out.loc
          have c1 := cell_n hq2 1 (v := .slice so q.length sp) rfl
          have d0 := cell_n HI.out.loc 0 (v := .int .i64 (a : Nat)) rfl
          have d1 := cell_n HI.out.loc 1 (v := .int .i64 (b : Nat)) rfl
          have d2 := cell_n HI.out.loc 2 (v := .int .i64 (c : Nat)) rfl
          have d3 := cell_n HI.out.loc 3 (v := str y) rfl
          have d4 := cell_n HI.out.loc 4 (v := .int .i64 (d : Nat)) rfl
          have d5 := cell_n HI.out.loc 5 (v := .slice ko keys.length kc) rfl
          have d6 := cell_n HI.out.loc 6 (v := .int .i64 (n : Nat)) rfl
          have Ho1 := Lib.hid (Hown.out.kept HI.out.g (Or.inr (own_other Hown.out (by omega)).symm))
          have hBs : B + 3 ≤ wc.heap.size := by have := ht.out.lt; have := HI.out.g.size; omega
          have hql : q.length = j := by have := hl.out; rw [← Hq.out, List.length_map] at this; exact this
          have Hal : Hid (q.length + 1 ≤ 8) := by show _ ≤ _; omega
          have Hql := Lib.hid hql
          clear hq2 hql
          go_wp2_with (at_builtin; refine wpList_pushl rfl _ _ 107 rfl (B + 3) 192 _ 7 80 Try.underlying107 info_sess rfl (by decide) _ _ _ rfl Ho1.out _ rfl rfl (by intro u hu; simp at hu; rcases hu with rfl | rfl | rfl | rfl | rfl | rfl | rfl <;> rfl) (by have := Hal.out; unfold maxLen; omega) (by have := Hal.out; omega) hBs ?_)
          intro gg cap w9 ho9 hg9 hat
          have HT9 := Lib.hid (TSt.pushS (v' := .slice (some ⟨gg, 0, none⟩) (q.length + 1) cap) ht.out HI.out Hown.out hg9)
          have HD := Lib.hid (sessDone (v' := .slice (some ⟨gg, 0, none⟩) (q.length + 1) cap) (s := ⟨a, b, c, y, d, keys, n⟩) HI.out Hq.out Hown.out Hk.out hpf.out (by have := ht.out.lt; omega) HK.out hg9 ho9 ⟨gg, rfl, hat⟩)
          have hl9 : w9.heap[B + 2]? = some (.cells #[.slice ao acc.length cp, .slice so q.length sp, .int .i64 (tm : Nat)] 109 (0, 0)) := by
            have := Ho1.out
            refine (hg9.block _ (by have := HI.out.g.size; have := ht.out.lt; omega) (own_other this (by omega))).trans ?_
            exact (HI.out.g.block (B + 2) (by have := ht.out.lt; omega) (by simp)).trans ht.out.loc
          clear c1 d0 d1 d2 d3 d4 d5 d6
          have c1 := cell_n hl9 1 (v := .slice so q.length sp) rfl
          have f1 := free_n hl9 1
          clear hl9 ho9 hg9 hat
          go_wp2_with fail
          go_roundw
          case rel => exact ⟨j + 1, acc2 ++ [⟨a, b, c, y, d, keys, n⟩], _, σ9, by go_num, hlt, by have := hl.out; show _ = _; simp [this], HT9, Lib.hid HD.out.1, Lib.hid HD.out.2, HC9⟩
          case measure => simp [intOf]; omega
      · have hjm : j = m8 := by omega
        have Hc2 : Hid (Cps res (fun u => rdTabE tm acc acc2 u) σ) := hc.out.of (fun u => by rw [show m8 - j = 0 from by omega]; rfl)
        have Hjm := Lib.hid hjm
        clear hjm
        go_wp2_with fail
        go_meet
        exact ⟨acc2, _, _, ht, hso, hpf, Hc2⟩
  case rest =>
  obtain ⟨acc2, vs, σ, HT, HS, HP2, HC⟩ := hcut
  have htf : TabF (B + 3) wc (.slice ao acc.length cp) vs ⟨acc, acc2, tm⟩ := ⟨RecsF.upx HP2.out (fun _ _ h => h) (UpX.of (Up.refl (B + 3) wc) none) (Nat.le_refl _) (fun _ _ _ _ => ⟨by simp, by simp⟩), HS.out.sessF⟩
  obtain ⟨so, sp, rfl⟩ := htf.s.slice
  have Htf := Lib.hid htf
  have c0 := cell_n HT.out.loc 0 (v := .slice ao acc.length cp) rfl
  have c1 := cell_n HT.out.loc 1 (v := .slice so acc2.length sp) rfl
  have c2 := cell_n HT.out.loc 2 (v := .int .i64 (tm : Nat)) rfl
  have HV := Lib.hid (ref_isTable _ _ _ wc htf.table2)
  clear htf
  go_wp2_with fail
  refine HV.out.mono ?_
  rintro e w7 ⟨rfl, hb7⟩
  clear c0 c1 c2
  have HT7 : Hid (TSt w w7 B (.slice ao acc.length cp) (.slice so acc2.length sp) (tm : Nat) σ) :=
    ⟨(hb7.block _ (lt_of_block HT.out.res)).trans HT.out.res, HT.out.rs.kept (below_grown hb7 none) (by simp), (hb7.block _ (lt_of_block HT.out.loc)).trans HT.out.loc, HT.out.bel.trans (hb7.mono (by have := HT.out.lt; omega))⟩
  have Htf7 := Lib.hid (Htf.out.up (S' := B + 3) (Up.ofBelow hb7) (Nat.le_refl _))
  clear hb7
  obtain ⟨ok, hok⟩ := hide (tabB ⟨acc, acc2, tm⟩)
  rw [hok.out]

  cases ok with
  | true =>
    have HC8 : Hid (Cps res (fun u => .ok (⟨acc, acc2, (tm : Nat)⟩, u)) σ) := HC.out.of (fun u => by unfold rdTabE; rw [if_pos hok.out])
    go_wp2_with fail
    refine (end_rs HT7.out.rs).mono ?_
    obtain ⟨z, hz9⟩ := hide (endS σ)
    have hfin := Cps.fin HC8.out
    rw [hz9.out] at hfin
    rw [hz9.out]
    have Hfin := Lib.hid hfin
    rintro e w9 ⟨rfl, hg⟩
    have hq9 := (hg.block _ (lt_of_block HT7.out.loc) (by simp)).trans HT7.out.loc
    have hc9 := (hg.block _ (lt_of_block HT7.out.res) (by simp)).trans HT7.out.res
    have hb9 : Below B w w9 := HT7.out.bel.trans (grown_below hg (by omega) (by have := HT7.out.lt; omega))
    have Htf9 := Lib.hid (Htf7.out.up (Up.ofGrown (S := B + 3) hg (by omega)) (Nat.le_refl _))
    have q0 := cell_n hq9 0 (v := .slice ao acc.length cp) rfl
    have q1 := cell_n hq9 1 (v := .slice so acc2.length sp) rfl
    have q2 := cell_n hq9 2 (v := .int .i64 (tm : Nat)) rfl
    have c0 := cell_n hc9 0 (v := .slice none 0 0) rfl
    have f0 := free_n hc9 0
    have c1 := cell_n hc9 1 (v := .slice none 0 0) rfl
    have f1 := free_n hc9 1
    have c2 := cell_n hc9 2 (v := .int .i64 0) rfl
    have f2 := free_n hc9 2
    have Hc9 := Lib.hid hc9
    have Hb9 := Lib.hid hb9
    clear hg hq9 hc9 hb9 hfin
    by_cases h9 : z = 0
    · have HCL := Lib.hid (Hfin.out.1 h9)
      subst h9
      have HE := Lib.hid (setAll_at Hc9.out [.slice ao acc.length cp, .slice so acc2.length sp, .int .i64 (tm : Nat)] rfl)
      have HB := Lib.hid (setAll_below Hb9.out (Nat.le_refl _) [.slice ao acc.length cp, .slice so acc2.length sp, .int .i64 (tm : Nat)])
      have Htf10 := Lib.hid (Htf9.out.up (w' := setAll w9 B [.slice ao acc.length cp, .slice so acc2.length sp, .int .i64 (tm : Nat)]) (S' := B + 1) (Up.setAll _ w9 (by omega) _) (by omega))
      go_wp2_with fail
      change bodyPost _ _ _ Exit.ret _ (setAll w9 B [.slice ao acc.length cp, .slice so acc2.length sp, .int .i64 (tm : Nat)])
      generalize setAll w9 B [.slice ao acc.length cp, .slice so acc2.length sp, .int .i64 (tm : Nat)] = W5 at HE HB Htf10 ⊢
      clear c0 f0 c1 f1 c2 f2
      have c0 := cell_n HE.out 0 (v := .slice ao acc.length cp) rfl
      have c1 := cell_n HE.out 1 (v := .slice so acc2.length sp) rfl
      have c2 := cell_n HE.out 2 (v := .int .i64 (tm : Nat)) rfl
      refine bodyPost_ret (by simp [results, Try.results68, go_sem, c0, c1, c2]; rfl) rfl ?_
      rw [← HP.out, HCL.out]
      exact ⟨_, _, rfl, Htf10.out.base (by rw [hB.out]; omega), by rw [hB.out]; exact HB.out⟩
    · have HCL := Lib.hid (Hfin.out.2 h9)
      have u0 : (z == 0) = false := beq_eq_false_iff_ne.2 h9
      have u1 : (z != 0) = true := bne_iff_ne.2 h9
      clear h9
      have HE := Lib.hid (setAll_at Hc9.out [.slice none 0 0, .slice none 0 0, .int .i64 0] rfl)
      have HB := Lib.hid (setAll_below Hb9.out (Nat.le_refl _) [.slice none 0 0, .slice none 0 0, .int .i64 0])
      go_wp2_with fail
      change bodyPost _ _ _ Exit.ret _ (setAll w9 B [.slice none 0 0, .slice none 0 0, .int .i64 0])
      generalize setAll w9 B [.slice none 0 0, .slice none 0 0, .int .i64 0] = W5 at HE HB ⊢
      clear c0 f0 c1 f1 c2 f2
      have c0 := cell_n HE.out 0 (v := .slice none 0 0) rfl
      have c1 := cell_n HE.out 1 (v := .slice none 0 0) rfl
      have c2 := cell_n HE.out 2 (v := .int .i64 0) rfl
      refine bodyPost_ret (by simp [results, Try.results68, go_sem, c0, c1, c2]; rfl) rfl ?_
      rw [← HP.out, HCL.out]
      exact ⟨rfl, by rw [hB.out]; exact HB.out⟩
  | false =>
    have HC8 : Hid (Cps res (fun u => .ok ((⟨acc, acc2, (tm : Nat)⟩ : Tab), u)) (badS 6 σ)) := Cps.bad (by decide) (HC.out.of (fun u => by unfold rdTabE; rw [if_neg (by rw [hok.out]; decide)]))
    have HBD := Lib.hid (bad_rs 6 (by decide) HT7.out.rs)
    go_wp2_with fail
    refine HBD.out.mono ?_
    rintro e w8 ⟨rfl, hr8, hg8⟩
    have HT8 := Lib.hid (HT7.out.read hr8 hg8)
    have Htf8 := Lib.hid (Htf7.out.up (Up.ofGrown (S := B + 3) hg8 (by omega)) (Nat.le_refl _))
    clear hr8 hg8
    go_wp2_with fail
    refine (end_rs HT8.out.rs).mono ?_
    obtain ⟨z, hz9⟩ := hide (endS (badS 6 σ))
    have hfin := Cps.fin HC8.out
    rw [hz9.out] at hfin
    rw [hz9.out]
    have Hfin := Lib.hid hfin
    rintro e w9 ⟨rfl, hg⟩
    have hq9 := (hg.block _ (lt_of_block HT8.out.loc) (by simp)).trans HT8.out.loc
    have hc9 := (hg.block _ (lt_of_block HT8.out.res) (by simp)).trans HT8.out.res
    have hb9 : Below B w w9 := HT8.out.bel.trans (grown_below hg (by omega) (by have := HT8.out.lt; omega))
    have Htf9 := Lib.hid (Htf8.out.up (Up.ofGrown (S := B + 3) hg (by omega)) (Nat.le_refl _))
    have q0 := cell_n hq9 0 (v := .slice ao acc.length cp) rfl
    have q1 := cell_n hq9 1 (v := .slice so acc2.length sp) rfl
    have q2 := cell_n hq9 2 (v := .int .i64 (tm : Nat)) rfl
    have c0 := cell_n hc9 0 (v := .slice none 0 0) rfl
    have f0 := free_n hc9 0
    have c1 := cell_n hc9 1 (v := .slice none 0 0) rfl
    have f1 := free_n hc9 1
    have c2 := cell_n hc9 2 (v := .int .i64 0) rfl
    have f2 := free_n hc9 2
    have Hc9 := Lib.hid hc9
    have Hb9 := Lib.hid hb9
    clear hg hq9 hc9 hb9 hfin
    by_cases h9 : z = 0
    · have HCL := Lib.hid (Hfin.out.1 h9)
      subst h9
      have HE := Lib.hid (setAll_at Hc9.out [.slice ao acc.length cp, .slice so acc2.length sp, .int .i64 (tm : Nat)] rfl)
      have HB := Lib.hid (setAll_below Hb9.out (Nat.le_refl _) [.slice ao acc.length cp, .slice so acc2.length sp, .int .i64 (tm : Nat)])
      have Htf10 := Lib.hid (Htf9.out.up (w' := setAll w9 B [.slice ao acc.length cp, .slice so acc2.length sp, .int .i64 (tm : Nat)]) (S' := B + 1) (Up.setAll _ w9 (by omega) _) (by omega))
      go_wp2_with fail
      change bodyPost _ _ _ Exit.ret _ (setAll w9 B [.slice ao acc.length cp, .slice so acc2.length sp, .int .i64 (tm : Nat)])
      generalize setAll w9 B [.slice ao acc.length cp, .slice so acc2.length sp, .int .i64 (tm : Nat)] = W5 at HE HB Htf10 ⊢
      clear c0 f0 c1 f1 c2 f2
      have c0 := cell_n HE.out 0 (v := .slice ao acc.length cp) rfl
      have c1 := cell_n HE.out 1 (v := .slice so acc2.length sp) rfl
      have c2 := cell_n HE.out 2 (v := .int .i64 (tm : Nat)) rfl
      refine bodyPost_ret (by simp [results, Try.results68, go_sem, c0, c1, c2]; rfl) rfl ?_
      rw [← HP.out, HCL.out]
      exact ⟨_, _, rfl, Htf10.out.base (by rw [hB.out]; omega), by rw [hB.out]; exact HB.out⟩
    · have HCL := Lib.hid (Hfin.out.2 h9)
      have u0 : (z == 0) = false := beq_eq_false_iff_ne.2 h9
      have u1 : (z != 0) = true := bne_iff_ne.2 h9
      clear h9
      have HE := Lib.hid (setAll_at Hc9.out [.slice none 0 0, .slice none 0 0, .int .i64 0] rfl)
      have HB := Lib.hid (setAll_below Hb9.out (Nat.le_refl _) [.slice none 0 0, .slice none 0 0, .int .i64 0])
      go_wp2_with fail
      change bodyPost _ _ _ Exit.ret _ (setAll w9 B [.slice none 0 0, .slice none 0 0, .int .i64 0])
      generalize setAll w9 B [.slice none 0 0, .slice none 0 0, .int .i64 0] = W5 at HE HB ⊢
      clear c0 f0 c1 f1 c2 f2
      have c0 := cell_n HE.out 0 (v := .slice none 0 0) rfl
      have c1 := cell_n HE.out 1 (v := .slice none 0 0) rfl
      have c2 := cell_n HE.out 2 (v := .int .i64 0) rfl
      refine bodyPost_ret (by simp [results, Try.results68, go_sem, c0, c1, c2]; rfl) rfl ?_
      rw [← HP.out, HCL.out]
      exact ⟨rfl, by rw [hB.out]; exact HB.out⟩
end Go.Proofs.Ytbonmeogmjfkeaa
