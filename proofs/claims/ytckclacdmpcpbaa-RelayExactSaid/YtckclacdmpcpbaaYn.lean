/-
  The reference's relay: a packet that comes.
-/
import Derived.Test.YtckclacdmpcpbaaYm
namespace Go.Proofs.Ytckclacdmpcpbaa
open Go.RowKit Wm Mm Rl
set_option linter.unusedVariables false
set_option linter.unusedSimpArgs false

theorem ackR_fin {r : RelP} {G : Nat → Prop} {w V U : World} {B f m X : Nat} {vs : Nat → Value} {a : Option Addr} {c : Nat} {n : Int} (hf : Fam 34 5 rowP 10 G V vs r.wait) (hB : V.heap[B]? = some (blkR r.id (fun k => (r.sent k : Int)) vs (fun k => (r.came k : Int)))) (hGB : G B) (hc : Chg G w V) (hs : V.heap.size = X) (hb : Below V.heap.size V U) (hf10 : f < 10)
    (ho : U.ownsRow V.heap.size 34 5 (.slice a m c) m (((r.wait f).filter (fun p => !(pAck n (r.sent f) p))).flatMap rowP)) (hm : ((r.wait f).filter (fun p => !(pAck n (r.sent f) p))).length = m) :
    RefX (fun g => G g ∨ X ≤ g) (U.setCell ⟨B, 11 + f, none⟩ (.slice a m c)) B (ackedP r f n) ∧ Chg G w (U.setCell ⟨B, 11 + f, none⟩ (.slice a m c)) := by
  have hBU := (hb.block B (lt_of_block hB)).trans hB
  have hp := hf.put hf10 (v := .slice a m c) (l := (r.wait f).filter (fun p => !(pAck n (r.sent f) p))) (w' := U) (below_grown hb _) (by rw [hm]; exact own_base ho (Nat.zero_le _)) (fun g e => Or.inr (ho.lt g e).1)
  rw [hs] at hp
  refine ⟨⟨⟨upd vs f (.slice a m c), ?_, hp.setOther (fun k hk => famR_ne hp hBU hk) _⟩, Or.inl hGB⟩, hc.trans ((Chg.fresh G hb).trans (Chg.setCell _ hGB _))⟩
  rw [blkR_set hBU, cellsR_setWait hf10]
  rfl
set_option maxHeartbeats 8000000 in
set_option maxRecDepth 100000 in
theorem recvR_law (r : RelP) (x : PktP) (F : Nat → Prop) (w : World) (B : Nat) (h : RefX F w B r) (hw : ∀ k, k < 10 → (r.wait k).length ≤ 16) (hs : ∀ k, k < 10 → r.sent k ≤ 1152921504606846976) (hc : ∀ k, k < 10 → r.came k ≤ 1152921504606846976) :
    Calls Try.prog 21 #[.pointer (some ⟨B, 0, none⟩), .agg #[.int .i64 x.frm, .int .i64 x.to, .int .i64 x.num, .bool x.ack, str x.body]] w fun e w' => ∃ pv av, e = .returned (.tuple #[pv, av]) ∧
      w'.ownsRow w.heap.size 42 2 pv (recvP r x).2.1.length ((recvP r x).2.1.flatMap rowR) ∧ w'.ownsRow w.heap.size 34 5 av (recvP r x).2.2.length ((recvP r x).2.2.flatMap rowP) ∧ RefX (fun g => F g ∨ w.heap.size ≤ g) w' B (recvP r x).1 ∧ Chg F w w' := by
  obtain ⟨post, HP⟩ := hide (fun (e : Ending) (w' : World) => ∃ pv av, e = .returned (.tuple #[pv, av]) ∧
      w'.ownsRow w.heap.size 42 2 pv (recvP r x).2.1.length ((recvP r x).2.1.flatMap rowR) ∧ w'.ownsRow w.heap.size 34 5 av (recvP r x).2.2.length ((recvP r x).2.2.flatMap rowP) ∧ RefX (fun g => F g ∨ w.heap.size ≤ g) w' B (recvP r x).1 ∧ Chg F w w')
  rw [HP.out]
  obtain ⟨G, hG⟩ := hide (fun g => F g ∧ g < w.heap.size)
  have HG : Hid (∀ g, G g → F g ∧ g < w.heap.size) := fun g hg => by rw [← hG.out] at hg; exact hg
  have Hfin : Hid (∀ e pv av w' pl al r', e = Ending.returned (.tuple #[pv, av]) → recvP r x = (r', pl, al) → w'.ownsRow w.heap.size 42 2 pv pl.length (pl.flatMap rowR) → w'.ownsRow w.heap.size 34 5 av al.length (al.flatMap rowP) → RefX (fun g => G g ∨ w.heap.size ≤ g) w' B r' → Chg G w w' → post e w') := by
    intro e pv av w' pl al r' h1 h2 h3 h4 h5 h6
    rw [← HP.out, h2]
    exact ⟨pv, av, h1, h3, h4, h5.weak (fun g _ hg => hg.imp (fun h => (HG.out g h).1) id), h6.mono (fun g _ hg => (HG.out g hg).1)⟩
  have hGr : RefX G w B r := by rw [← hG.out]; exact h.weak (fun g h1 h2 => ⟨h2, h1⟩)
  obtain ⟨X, hX⟩ := hide w.heap.size
  obtain ⟨V, hV⟩ := hide (w.alloc (.cells #[.int .i64 x.frm, .int .i64 x.to, .int .i64 x.num, .bool x.ack, str x.body] 34))
  have HVX : Hid (V.heap[X]? = some (blkP x)) := by show _ = _; rw [← hV.out, ← hX.out]; exact hp_at _ _ rfl
  have HVs : Hid (V.heap.size = X + 1) := by show _ = _; rw [← hV.out, ← hX.out]; simp
  have HVr : Hid (RefX G V B r) := by show RefX _ _ _ _; rw [← hV.out]; exact hGr.agree (Agree.alloc G w _)
  have HVc : Hid (Chg G w V) := by show Chg _ _ _; rw [← hV.out]; exact Chg.alloc G w _
  have HBX : Hid (B < X) := by show _ < _; rw [← hX.out]; obtain ⟨⟨vs, hB, _⟩, _⟩ := hGr; exact lt_of_block hB
  have Hw := Lib.hid hw
  have Hs := Lib.hid hs
  have Hc := Lib.hid hc
  rw [hX.out] at Hfin HG
  have hcid : V.cell? ⟨B, 0, none⟩ = some (.int .i64 r.id) := by obtain ⟨⟨vs, hB, _⟩, _⟩ := HVr.out; exact cell_n hB 0 (cellsR_id)
  have x0 := cell_n HVX.out 0 (v := .int .i64 x.frm) rfl
  have x1 := cell_n HVX.out 1 (v := .int .i64 x.to) rfl
  have x2 := cell_n HVX.out 2 (v := .int .i64 x.num) rfl
  have hparts := may_parts (id := r.id) (x := x)
  have Hparts := Lib.hid hparts
  clear h hGr hw hs hc hparts
  go_enter Try.func21, Try.ntmps21
  go_upto_region 1 with fail
  rw [hV.out, hX.out]
  go_cut [40] (fun s wx => s = .bool (!(mayCome r.id x)) ∧ Hid (∃ n, wx = V.drewN n))
  case first =>
    --SLOW
    cases b1 : (x.to != r.id)
    · have b1' : (x.to == r.id) = true := by simpa [bne] using b1
      cases b2 : decide (x.frm < 1)
      · cases b3 : decide (9 < x.frm)
        · cases b4 : (x.frm == r.id)
          · cases b5 : decide (x.num < 1)
            all_goals
              have hpm : mayCome r.id x = !(decide (x.num < 1)) := by rw [Hparts.out, b1, b2, b3, b4]; rfl
              rw [b5] at hpm
              have Hpm := Lib.hid hpm
              clear hpm
              go_quiet (fail)
              go_wp2_with fail
              go_meet
              exact ⟨by rw [Hpm.out] <;> rfl, ⟨_, rfl⟩⟩
          · have hpm : mayCome r.id x = false := by rw [Hparts.out, b1, b2, b3, b4]; rfl
            have Hpm := Lib.hid hpm
            clear hpm
            go_quiet (fail)
            go_wp2_with fail
            go_meet
            exact ⟨by rw [Hpm.out] <;> rfl, ⟨_, rfl⟩⟩
        · have hpm : mayCome r.id x = false := by rw [Hparts.out, b1, b2, b3]; rfl
          have Hpm := Lib.hid hpm
          clear hpm
          go_quiet (fail)
          go_wp2_with fail
          go_meet
          exact ⟨by rw [Hpm.out] <;> rfl, ⟨_, rfl⟩⟩
      · have hpm : mayCome r.id x = false := by rw [Hparts.out, b1, b2]; rfl
        have Hpm := Lib.hid hpm
        clear hpm
        go_quiet (fail)
        go_wp2_with fail
        go_meet
        exact ⟨by rw [Hpm.out] <;> rfl, ⟨_, rfl⟩⟩
    · have b1' : (x.to == r.id) = false := by simpa [bne] using b1
      have hpm : mayCome r.id x = false := by rw [Hparts.out, b1]; rfl
      have Hpm := Lib.hid hpm
      clear hpm
      go_quiet (fail)
      go_wp2_with fail
      go_meet
      exact ⟨by rw [Hpm.out] <;> rfl, ⟨_, rfl⟩⟩
    --ENDSLOW
  case rest =>
    obtain ⟨V2, hV2⟩ : ∃ V2, V2 = wc := ⟨_, rfl⟩
    subst hV2
    obtain ⟨rfl, hn⟩ := hcut
    obtain ⟨nq, hwc⟩ := hn.out
    have HWr : Hid (RefX G V2 B r) := by show RefX _ _ _ _; rw [hwc]; exact HVr.out.agree (Agree.drewN G V nq)
    have HWc : Hid (Chg G w V2) := by show Chg _ _ _; rw [hwc]; exact HVc.out.trans (Chg.drewN G V nq)
    have HWX : Hid (V2.heap[X]? = some (blkP x)) := by show _ = _; rw [hwc]; exact HVX.out
    have HWs : Hid (V2.heap.size = X + 1) := by show _ = _; rw [hwc]; exact HVs.out
    clear hn hwc hcid x0 x1 x2
    cases hm : mayCome r.id x
    · have hr : recvP r x = (r, [], []) := by unfold recvP; rw [hm]; rfl
      have Hr := Lib.hid hr
      clear hr hm
      go_wp2_with fail
      exact Hfin.out _ _ _ _ _ _ _ rfl Hr.out (World.ownsRow_nil _ _ _ _) (World.ownsRow_nil _ _ _ _) (HWr.out.weak (fun g _ h => Or.inl h)) HWc.out
    · rw [Bool.not_true]
      have hm2 := hm
      unfold mayCome at hm2
      simp only [Bool.and_eq_true, beq_iff_eq, decide_eq_true_eq] at hm2
      obtain ⟨⟨hto, hmt⟩, hnum⟩ := hm2
      obtain ⟨hf1, hf9, hfid⟩ := mayTo_true hmt
      obtain ⟨f, hf⟩ : ∃ f : Nat, x.frm = (f : Int) := ⟨x.frm.toNat, by omega⟩
      have hf10 : f < 10 := by omega
      have hfn : x.frm.toNat = f := by omega
      have hr : recvP r x = (if x.ack then (ackedP r f x.num, [], []) else if x.num = r.came f + 1 then (cameP r f, [⟨x.frm, x.body⟩], [ackOf (cameP r f) f]) else if r.came f = 0 then (r, [], []) else (r, [], [ackOf r f])) := by
        unfold recvP; rw [if_pos hm]; simp only [hfn]
      obtain ⟨⟨vs, hB, hfam⟩, hGB⟩ := HWr.out
      have x0 : V2.cell? ⟨X, 0, none⟩ = some (.int .i64 (f : Int)) := by rw [← hf]; exact cell_n HWX.out 0 (v := .int .i64 x.frm) rfl
      have x2 := cell_n HWX.out 2 (v := .int .i64 x.num) rfl
      have x3 := cell_n HWX.out 3 (v := .bool x.ack) rfl
      have x4 := cell_n HWX.out 4 (v := str x.body) rfl
      have c0 := cell_n hB 0 cellsR_id
      have c3 := cell_n hB (21 + f) (cellsR_came hf10)
      have g3 := free_n hB (21 + f)
      have hf10i : (f : Int) < 10 := by omega
      have hcf := Hc.out f hf10
      have Hf := Lib.hid hf
      have Hblk := Lib.hid hB
      have Hfam := Lib.hid hfam
      clear hB hfam hm hmt hf1 hf9 hfid hf hfn hto
      cases hack : x.ack
      ·
        --SLOW
        rw [hack] at x3 hr
        simp only [Bool.false_eq_true, if_false] at hr
        obtain ⟨cf, hcfe⟩ := hide (r.came f)
        rw [hcfe.out] at c3 hcf hr
        have hwr : IntKind.i64.wrap ((cf : Int) + 1) = (cf : Int) + 1 := IntWalk.i64_in _ (by omega)
        obtain ⟨bq, hbq⟩ := hide (x.num == (cf : Int) + 1)
        have Hr := Lib.hid hr
        clear hr hack
        go_upto_region 14 with fail
        go_cut [103] (fun s wx => s = .bool bq ∧ Hid (∃ n, wx = V2.drewN n))
        case first =>
          go_quiet (fail)
          go_wp2_with fail
          go_meet
          exact ⟨by rw [hbq.out], ⟨_, rfl⟩⟩
        case rest =>
          obtain ⟨U, hU⟩ : ∃ U, U = wc := ⟨_, rfl⟩
          subst hU
          obtain ⟨rfl, hn⟩ := hcut
          obtain ⟨o, ho⟩ := hn.out
          rcases Bool.eq_false_or_eq_true bq with hb | hb
          · subst hb
            have heq : x.num = (cf : Int) + 1 := by have := hbq.out; simpa using this
            have Hr3 : Hid (recvP r x = (cameP r f, [⟨x.frm, x.body⟩], [ackOf (cameP r f) f])) := by show _ = _; rw [Hr.out, if_pos heq]
            have y0 : U.cell? ⟨X, 0, none⟩ = some (.int .i64 (f : Int)) := by rw [ho]; exact x0
            have y3 : U.cell? ⟨B, 21 + f, none⟩ = some (.int .i64 (cf : Int)) := by rw [ho]; exact c3
            have z3 : U.frozen? ⟨B, 21 + f, none⟩ = false := by rw [ho]; exact g3
            obtain ⟨U3, hU3⟩ := hide ((U.setCell ⟨B, 21 + f, none⟩ (.int .i64 ((cf : Int) + 1))).drew)
            have HUb : Hid (U.heap[B]? = some (blkR r.id (fun k => (r.sent k : Int)) vs (fun k => (r.came k : Int)))) := by show _ = _; rw [ho]; exact Hblk.out
            have HUf : Hid (Fam 34 5 rowP 10 G U vs r.wait) := by show Fam _ _ _ _ _ _ _ _; rw [ho]; exact Hfam.out.agree (Agree.drewN G V2 o)
            have HUX : Hid (U.heap[X]? = some (blkP x)) := by show _ = _; rw [ho]; exact HWX.out
            have HUs : Hid (U.heap.size = X + 1) := by show _ = _; rw [ho]; exact HWs.out
            have HUc : Hid (Chg G w U) := by show Chg _ _ _; rw [ho]; exact HWc.out.trans (Chg.drewN G V2 o)
            have h3c : Chg G U U3 := by rw [← hU3.out]; exact (Chg.setCell U hGB _).trans (Chg.drew G _)
            have H3s : Hid (U3.heap.size = X + 1) := by show _ = _; rw [← hU3.out]; simpa using HUs.out
            have H3X : Hid (U3.heap[X]? = some (blkP x)) := h3c.at HUX.out (fun e => by have := (HG.out X e).2; omega)
            have H3c : Hid (Chg G w U3) := HUc.out.trans h3c
            have H3b : Hid (U3.heap[B]? = some (blkR r.id (fun k => (r.sent k : Int)) vs (fun k => ((cameP r f).came k : Int)))) := by
              show _ = _
              rw [← hU3.out]
              show (U.setCell _ _).heap[B]? = _
              rw [blkR_set HUb.out, cellsR_setCame hf10]
              have e : (fun k => ((cameP r f).came k : Int)) = upd (fun k => (r.came k : Int)) f ((cf : Int) + 1) := by
                funext k
                show ((upd r.came f (r.came f + 1) k : Nat) : Int) = _
                unfold upd
                by_cases h : k = f
                · subst h; simp [hcfe.out]
                · simp [h]
              rw [e]
            have H3f : Hid (Fam 34 5 rowP 10 G U3 vs r.wait) := by
              show Fam _ _ _ _ _ _ _ _
              rw [← hU3.out]
              exact (HUf.out.setOther (fun k hk => famR_ne HUf.out HUb.out hk) _).agree (Agree.drew G _)
            clear heq ho x0 x2 x3 x4 c0 c3 g3 h3c
            go_upto_region 15 with fail
            go_region
            all_goals
              rw [hU3.out]
              clear y0 y3 z3
              have e0 := cell_n H3X.out 0 (v := .int .i64 x.frm) rfl
              have e4 := cell_n H3X.out 4 (v := str x.body) rfl
              rw [Hf.out] at e0
              go_upto_region 17 with fail
              obtain ⟨Y, hY⟩ := hide (U3.alloc (.cells #[.int .i64 (f : Int), str x.body] 42))
              have HYs : Hid (Y.heap.size = X + 2) := by show _ = _; rw [← hY.out, World.size_alloc, H3s.out]
              have HYX : Hid (Y.heap[X]? = some (blkP x)) := by show _ = _; rw [← hY.out]; exact (hp_past _ _ (by show X ≠ _; rw [H3s.out]; omega)).trans H3X.out
              have HYb : Hid (Y.heap[B]? = some (blkR r.id (fun k => (r.sent k : Int)) vs (fun k => ((cameP r f).came k : Int)))) := by show _ = _; rw [← hY.out]; exact (hp_past _ _ (by show B ≠ _; rw [H3s.out]; have := HBX.out; omega)).trans H3b.out
              have HYc : Hid (Chg G w Y) := by show Chg _ _ _; rw [← hY.out]; exact H3c.out.trans (Chg.alloc G _ _)
              have HYf : Hid (Fam 34 5 rowP 10 G Y vs r.wait) := by show Fam _ _ _ _ _ _ _ _; rw [← hY.out]; exact H3f.out.agree (Agree.alloc G _ _)
              have HYp : Hid (Y.ownsRow X 42 2 (.slice (some ⟨U3.heap.size, 0, none⟩) 1 1) 1 [.int .i64 (f : Int), str x.body]) := by
                show World.ownsRow _ _ _ _ _ _ _
                rw [← hY.out]
                exact own_base (own_lit U3 42 2 1 #[.int .i64 (f : Int), str x.body] rfl (by decide)) (by have := H3s.out; omega)
              rw [hY.out]
              obtain ⟨P3, hP3⟩ := hide U3.heap.size
              rw [hP3.out] at HYp ⊢
              clear e0 e4
              have e0 := cell_n HYX.out 0 (v := .int .i64 x.frm) rfl
              rw [Hf.out] at e0
              have i6 := cell_n HYb.out 0 cellsR_id
              have c6 := cell_n HYb.out (21 + f) (cellsR_came hf10)
              have hcm : (cameP r f).came f = cf + 1 := by show upd r.came f _ f = _; rw [upd_same, hcfe.out]
              rw [hcm] at c6
              obtain ⟨m6, hm6⟩ := hide (cf + 1)
              rw [hm6.out] at c6 hcm
              have hm61 : ((m6 : Int) == 0) = false := beq_eq_false_iff_ne.2 (by have := hm6.out; omega)
              have Hcm := Lib.hid hcm
              clear hcm
              go_cut [128] (fun s wx => s = .bool false ∧ Hid (∃ n, wx = Y.drewN n))
              case first =>
                go_quiet (fail)
                go_wp2_with fail
                go_meet
                exact ⟨rfl, ⟨_, rfl⟩⟩
              case rest =>
                obtain ⟨Z, hZ⟩ : ∃ Z, Z = wc := ⟨_, rfl⟩
                subst hZ
                obtain ⟨rfl, hn3⟩ := hcut
                obtain ⟨o3, ho3⟩ := hn3.out
                have e0 : Z.cell? ⟨X, 0, none⟩ = some (.int .i64 (f : Int)) := by rw [ho3]; exact e0
                have i6 : Z.cell? ⟨B, 0, none⟩ = some (.int .i64 r.id) := by rw [ho3]; exact i6
                have c6 : Z.cell? ⟨B, 21 + f, none⟩ = some (.int .i64 (m6 : Int)) := by rw [ho3]; exact c6
                have HE6 : Hid (∀ o, post (.returned (.tuple #[.slice (some ⟨P3, 0, none⟩) 1 1, .slice (some ⟨Z.heap.size, 0, none⟩) 1 1])) ((Z.alloc (.cells #[.int .i64 r.id, .int .i64 (f : Int), .int .i64 (m6 : Int), .bool true, .string ⟨#[]⟩] 34)).drewN o)) := fun o => by
                  have hac : ackOf (cameP r f) f = ⟨r.id, (f : Int), (m6 : Int), true, []⟩ := by unfold ackOf; rw [Hcm.out]; rfl
                  have ho1 : Z.ownsRow X 42 2 (.slice (some ⟨P3, 0, none⟩) 1 1) ([⟨x.frm, x.body⟩] : List ParP).length (([⟨x.frm, x.body⟩] : List ParP).flatMap rowR) := by
                    rw [ho3]
                    have h := World.ownsRow.drewN' HYp.out o3
                    rw [← Hf.out] at h
                    exact h
                  have hzc : Chg G w Z := by rw [ho3]; exact HYc.out.trans (Chg.drewN G Y o3)
                  have hzs : Z.heap.size = X + 2 := by rw [ho3]; exact HYs.out
                  have hzr : RefX G Z B (cameP r f) := by rw [ho3]; exact (RefX.agree (w := Y) ⟨⟨vs, HYb.out, HYf.out⟩, hGB⟩ (Agree.drewN G Y o3))
                  refine Hfin.out _ _ _ _ [⟨x.frm, x.body⟩] [ackOf (cameP r f) f] (cameP r f) rfl Hr3.out (World.ownsRow.drewN' (ho1.alloc _) o) ?_ ?_ ?_
                  · rw [hac]
                    exact World.ownsRow.drewN' (own_base (own_lit Z 34 5 1 #[.int .i64 r.id, .int .i64 (f : Int), .int .i64 (m6 : Int), .bool true, .string ⟨#[]⟩] rfl (by decide)) (by omega)) o
                  · exact (hzr.agree ((Agree.alloc G _ _).trans (Agree.drewN G _ o))).weak (fun g _ h => Or.inl h)
                  · exact hzc.trans ((Chg.alloc G _ _).trans (Chg.drewN G _ o))
                clear ho3 hn3
                go_upto_region 19 with fail
                go_region
                all_goals
                  go_wp2_with fail
                  exact HE6.out 1
          · subst hb
            have hne : ¬ x.num = (cf : Int) + 1 := by have := hbq.out; simpa using this
            have hr2 : recvP r x = if cf = 0 then (r, [], []) else (r, [], [ackOf r f]) := by rw [Hr.out, if_neg hne]
            have Hr2 := Lib.hid hr2
            obtain ⟨b0, hb0⟩ := hide ((cf : Int) == 0)
            have y0 : U.cell? ⟨X, 0, none⟩ = some (.int .i64 (f : Int)) := by rw [ho]; exact x0
            have y3 : U.cell? ⟨B, 21 + f, none⟩ = some (.int .i64 (cf : Int)) := by rw [ho]; exact c3
            have Ho := Lib.hid ho
            clear hne hr2 x0 x2 x3 x4 c0 c3 g3 ho
            go_upto_region 17 with fail
            go_cut [128] (fun s wx => s = .bool b0 ∧ Hid (∃ n, wx = U.drewN n))
            case first =>
              go_quiet (fail)
              go_wp2_with fail
              go_meet
              exact ⟨by rw [hb0.out], ⟨_, rfl⟩⟩
            case rest =>
              obtain ⟨Y, hY⟩ : ∃ Y, Y = wc := ⟨_, rfl⟩
              subst hY
              obtain ⟨rfl, hn2⟩ := hcut
              obtain ⟨o2, ho2⟩ := hn2.out
              have hYd : Y = V2.drewN (o + o2) := by rw [ho2, Ho.out, World.drewN_drewN]
              have HYr : Hid (RefX G Y B r) := by show RefX _ _ _ _; rw [hYd]; exact HWr.out.agree (Agree.drewN G V2 _)
              have HYc : Hid (Chg G w Y) := by show Chg _ _ _; rw [hYd]; exact HWc.out.trans (Chg.drewN G V2 _)
              have HYX : Hid (Y.heap[X]? = some (blkP x)) := by show _ = _; rw [hYd]; exact HWX.out
              have HYs : Hid (Y.heap.size = X + 1) := by show _ = _; rw [hYd]; exact HWs.out
              have HYb : Hid (Y.heap[B]? = some (blkR r.id (fun k => (r.sent k : Int)) vs (fun k => (r.came k : Int)))) := by show _ = _; rw [hYd]; exact Hblk.out
              clear hYd ho2 hn2 hn y0 y3
              rcases Bool.eq_false_or_eq_true b0 with h0 | h0
              · subst h0
                have hz : cf = 0 := by have := hb0.out; simp at this; omega
                have Hr3 : Hid (recvP r x = (r, [], [])) := by show _ = _; rw [Hr2.out, if_pos hz]
                clear hz
                go_wp2_with fail
                exact Hfin.out _ _ _ _ _ _ _ rfl Hr3.out (World.ownsRow_nil _ _ _ _) (World.ownsRow_nil _ _ _ _) (HYr.out.weak (fun g _ h => Or.inl h)) HYc.out
              · subst h0
                have hz : ¬ cf = 0 := by have := hb0.out; simp at this; omega
                have Hr3 : Hid (recvP r x = (r, [], [ackOf r f])) := by show _ = _; rw [Hr2.out, if_neg hz]
                have e0 := cell_n HYX.out 0 (v := .int .i64 x.frm) rfl
                rw [Hf.out] at e0
                have i6 := cell_n HYb.out 0 cellsR_id
                have c6 := cell_n HYb.out (21 + f) (cellsR_came hf10)
                rw [hcfe.out] at c6
                have HE6 : Hid (∀ o, post (.returned (.tuple #[.slice none 0 0, .slice (some ⟨Y.heap.size, 0, none⟩) 1 1])) ((Y.alloc (.cells #[.int .i64 r.id, .int .i64 (f : Int), .int .i64 (cf : Int), .bool true, .string ⟨#[]⟩] 34)).drewN o)) := fun o => by
                  have hac : ackOf r f = ⟨r.id, (f : Int), (cf : Int), true, []⟩ := by unfold ackOf; rw [hcfe.out]
                  have ho1 : Y.ownsRow X 42 2 (.slice none 0 0) ([] : List ParP).length (([] : List ParP).flatMap rowR) := World.ownsRow_nil _ _ _ _
                  refine Hfin.out _ _ _ _ [] [ackOf r f] r rfl Hr3.out (World.ownsRow.drewN' (ho1.alloc _) o) ?_ ?_ ?_
                  · rw [hac]
                    exact World.ownsRow.drewN' (own_base (own_lit Y 34 5 1 #[.int .i64 r.id, .int .i64 (f : Int), .int .i64 (cf : Int), .bool true, .string ⟨#[]⟩] rfl (by decide)) (by have := HYs.out; omega)) o
                  · exact (HYr.out.agree ((Agree.alloc G _ _).trans (Agree.drewN G _ o))).weak (fun g _ h => Or.inl h)
                  · exact HYc.out.trans ((Chg.alloc G _ _).trans (Chg.drewN G _ o))
                clear hz
                go_upto_region 19 with fail
                go_region
                all_goals
                  go_wp2_with fail
                  exact HE6.out 1
        --ENDSLOW
      · rw [hack] at x3 hr
        simp only [if_true] at hr
        have Hr := Lib.hid hr
        have c1 := cell_n Hblk.out (1 + f) (cellsR_sent hf10)
        have c2 := cell_n Hblk.out (11 + f) (cellsR_wait hf10)
        have g2 := free_n Hblk.out (11 + f)
        clear hr hack
        obtain ⟨l, hl⟩ := hide (r.wait f)
        have hll : l.length ≤ 16 := by rw [← hl.out]; exact Hw.out f hf10
        obtain ⟨av, cv, hv⟩ := rel_slice Hfam.out hf10
        rw [hl.out] at hv
        rw [hv] at c2
        have Hv := Lib.hid hv
        have HL : Hid (V2.ownsRow 0 34 5 (.slice av l.length cv) l.length (l.flatMap rowP)) := by
          have h := Hfam.out.own f hf10
          rw [hl.out, hv] at h
          exact h
        have hst := Hs.out f hf10
        have HSl : Hid (X + 1 ≤ V2.heap.size) := by show _ ≤ _; rw [HWs.out]; exact Nat.le_refl _
        clear hv
        go_wp2_with fail
        go_loopw [6, 7] (fun s6 s7 wr => ∃ (k m : Nat) (a : Option Addr) (c : Nat), s7 = .int .i64 k ∧ k ≤ l.length ∧ s6 = .slice a m c ∧ m ≤ k ∧ Hid (wr.ownsRow (X + 1) 34 5 (.slice a m c) m (((l.take k).filter (fun p => !(pAck x.num (r.sent f) p))).flatMap rowP)) ∧ Hid (((l.take k).filter (fun p => !(pAck x.num (r.sent f) p))).length = m) ∧ Hid (Below (X + 1) V2 wr)) (fun _ s7 _ => l.length - (intOf s7).toNat)
        case atStart => exact ⟨0, 0, none, 0, rfl, Nat.zero_le _, rfl, Nat.zero_le _, World.ownsRow_nil _ _ _ _, rfl, Below.refl _ _⟩
        case round =>
          obtain ⟨k, m, a, c, rfl, hk, rfl, hm, ho, hlen, hb⟩ := hrel
          have hBr : Hid (wr.heap[B]? = some (blkR r.id (fun k => (r.sent k : Int)) vs (fun k => (r.came k : Int)))) := (hb.out.block B (by have := HBX.out; omega)).trans Hblk.out
          have hXr : Hid (wr.heap[X]? = some (blkP x)) := (hb.out.block X (by omega)).trans HWX.out
          have y0 := cell_n hXr.out 0 (v := .int .i64 x.frm) rfl
          have y2 := cell_n hXr.out 2 (v := .int .i64 x.num) rfl
          have d1 := cell_n hBr.out (1 + f) (cellsR_sent hf10)
          have d2 := cell_n hBr.out (11 + f) (cellsR_wait hf10)
          rw [Hf.out] at y0
          rw [Hv.out] at d2
          clear x0 x2 x3 x4 c0 c1 c2 c3 g2 g3
          obtain ⟨bk, hbk⟩ := hide (decide (k < l.length))
          go_upto_region 6 with fail
          go_cut [52] (fun s wx => s = .bool bk ∧ Hid (∃ n, wx = wr.drewN n))
          case first =>
            go_quiet (fail)
            go_wp2_with fail
            go_meet
            exact ⟨by rw [hbk.out], ⟨_, rfl⟩⟩
          case rest =>
            obtain ⟨U, hU⟩ : ∃ U, U = wc := ⟨_, rfl⟩
            subst hU
            obtain ⟨rfl, hn⟩ := hcut
            obtain ⟨o, hoU⟩ := hn.out
            have HbU : Hid (Below (X + 1) V2 U) := by show Below _ _ _; rw [hoU]; exact hb.out.trans ⟨rfl, rfl, rfl, Nat.le_refl _, fun _ _ => rfl⟩
            have HoU : Hid (U.ownsRow (X + 1) 34 5 (.slice a m c) m (((l.take k).filter (fun p => !(pAck x.num (r.sent f) p))).flatMap rowP)) := by show World.ownsRow _ _ _ _ _ _ _; rw [hoU]; exact World.ownsRow.drewN' ho.out o
            have HBU : Hid (U.heap[B]? = some (blkR r.id (fun k => (r.sent k : Int)) vs (fun k => (r.came k : Int)))) := by show _ = _; rw [hoU]; exact hBr.out
            have HXU : Hid (U.heap[X]? = some (blkP x)) := by show _ = _; rw [hoU]; exact hXr.out
            clear hoU hn y0 y2 d1 d2
            have z0 := cell_n HXU.out 0 (v := .int .i64 x.frm) rfl
            rw [Hf.out] at z0
            rcases Bool.eq_false_or_eq_true bk with hb1 | hb1
            · subst hb1
              have hkl : k < l.length := of_decide_eq_true hbk.out
              obtain ⟨gl, cl, he⟩ := own_ptr HL.out (by omega)
              injection he with he1 he2 he3
              subst he1 he3
              have hLU : U.ownsRow 0 34 5 (.slice (some ⟨gl, 0, none⟩) l.length cv) l.length (l.flatMap rowP) := own_agree HL.out (Agree.belowB (F := fun g => g < X + 1) HbU.out (fun g h => h)) (fun g e => by have := (HL.out.lt g e).2; have := HWs.out; omega)
              obtain ⟨y, hy⟩ := hide l[k]
              obtain ⟨u0, u1, u2, u3, u4⟩ := ownP_cells hLU hkl y hy.out
              have d2 := cell_n HBU.out (11 + f) (cellsR_wait hf10)
              rw [Hv.out] at d2
              have hki : (k : Int) < (l.length : Int) := by omega
              have Hki := Lib.hid hki
              obtain ⟨Q, hQ⟩ := hide U.heap.size
              have HQ : Hid (Below (X + 1) V2 U ∧ X + 1 ≤ Q) := ⟨HbU.out, by rw [← hQ.out]; exact Nat.le_trans HSl.out HbU.out.size⟩
              have HZ : Hid (∀ k o, U.heap[k]? = some o → (U.alloc (.cells #[.int .i64 0, .int .i64 0, .int .i64 0, .bool false, .string ⟨#[]⟩] 34)).heap[k]? = some o) := fun k o hk => (hp_past _ _ (Nat.ne_of_lt (lt_of_block hk))).trans hk
              have w0 := cell_n (HZ.out _ _ HXU.out) 0 (v := .int .i64 x.frm) rfl
              rw [Hf.out] at w0
              have w2 := cell_n (HZ.out _ _ HBU.out) (11 + f) (cellsR_wait hf10)
              rw [Hv.out] at w2
              obtain ⟨q0, q1, q2, q3, q4⟩ := ownP_cells (hLU.alloc (.cells #[.int .i64 0, .int .i64 0, .int .i64 0, .bool false, .string ⟨#[]⟩] 34)) hkl y hy.out
              have HLU := Lib.hid hLU
              clear hLU
              go_upto_region 8 with fail
              go_cut [8] (fun s wx => s = .pointer (some ⟨U.heap.size, 0, none⟩) ∧ Hid (∃ n, wx = (U.alloc (blkP y)).drewN n))
              case first =>
                go_region
                all_goals
                  go_wp2_with fail
                  go_meet
                  exact ⟨rfl, ⟨1, rfl⟩⟩
              case rest =>
                obtain ⟨Y, hY⟩ : ∃ Y, Y = wc := ⟨_, rfl⟩
                subst hY
                obtain ⟨rfl, hn2⟩ := hcut
                obtain ⟨o2, hoY⟩ := hn2.out
                have HbY : Hid (Below Q U Y) := by show Below _ _ _; rw [hoY, ← hQ.out]; exact ((Below.refl _ _).alloc (Nat.le_refl _) _).trans ⟨rfl, rfl, rfl, Nat.le_refl _, fun _ _ => rfl⟩
                have HYQ : Hid (Y.heap[Q]? = some (blkP y)) := by show _ = _; rw [hoY, ← hQ.out]; exact hp_at _ _ rfl
                clear hoY hn2 u0 u1 u2 u3 u4 d2 w0 w2 q0 q1 q2 q3 q4 z0 HZ hki
                rw [hQ.out]
                have HoY : Hid (Y.ownsRow (X + 1) 34 5 (.slice a m c) m (((l.take k).filter (fun p => !(pAck x.num (r.sent f) p))).flatMap rowP)) := own_below HoU.out (by rw [hQ.out]; exact HbY.out)
                have HBY : Hid (Y.heap[B]? = some (blkR r.id (fun k => (r.sent k : Int)) vs (fun k => (r.came k : Int)))) := (HbY.out.block B (by rw [← hQ.out]; exact lt_of_block HBU.out)).trans HBU.out
                have HXY : Hid (Y.heap[X]? = some (blkP x)) := (HbY.out.block X (by have := HQ.out.2; omega)).trans HXU.out
                have HbV : Hid (Below (X + 1) V2 Y) := HbU.out.trans (HbY.out.mono HQ.out.2)
                have z0 := cell_n HXY.out 0 (v := .int .i64 x.frm) rfl
                rw [Hf.out] at z0
                have z2 := cell_n HXY.out 2 (v := .int .i64 x.num) rfl
                have y2 := cell_n HYQ.out 2 (v := .int .i64 y.num) rfl
                have c1 := cell_n HBY.out (1 + f) (cellsR_sent hf10)
                obtain ⟨bt, hbt⟩ := hide (decide (x.num < y.num) || decide ((r.sent f : Int) < x.num))
                go_upto_region 9 with fail
                go_cut [81] (fun s wx => s = .bool bt ∧ Hid (∃ n, wx = Y.drewN n))
                case first =>
                  cases t1 : decide (x.num < y.num)
                  · go_quiet (fail)
                    go_wp2_with fail
                    go_meet
                    exact ⟨by rw [← hbt.out, t1]; rfl, ⟨_, rfl⟩⟩
                  · go_quiet (fail)
                    go_wp2_with fail
                    go_meet
                    exact ⟨by rw [← hbt.out, t1]; rfl, ⟨_, rfl⟩⟩
                case rest =>
                  obtain ⟨Z, hZ⟩ : ∃ Z, Z = wc := ⟨_, rfl⟩
                  subst hZ
                  obtain ⟨rfl, hn3⟩ := hcut
                  obtain ⟨o3, hoZ⟩ := hn3.out
                  have HoZ : Hid (Z.ownsRow (X + 1) 34 5 (.slice a m c) m (((l.take k).filter (fun p => !(pAck x.num (r.sent f) p))).flatMap rowP)) := by show World.ownsRow _ _ _ _ _ _ _; rw [hoZ]; exact World.ownsRow.drewN' HoY.out o3
                  have HZQ : Hid (Z.heap[Q]? = some (blkP y)) := by show _ = _; rw [hoZ]; exact HYQ.out
                  have HbZ : Hid (Below (X + 1) V2 Z) := by show Below _ _ _; rw [hoZ]; exact HbV.out.trans ⟨rfl, rfl, rfl, Nat.le_refl _, fun _ _ => rfl⟩
                  have hbP : bt = !(pAck x.num (r.sent f) y) := by
                    rw [← hbt.out]
                    unfold pAck
                    rw [not_lt_dec y.num x.num]
                    rcases Bool.eq_false_or_eq_true (decide (x.num < y.num)) with h1 | h1 <;> rcases Bool.eq_false_or_eq_true (decide ((r.sent f : Int) < x.num)) with h2 | h2 <;> simp [h1, h2] <;> (first | (have := of_decide_eq_true h2; omega) | (have := of_decide_eq_false h2; omega) | skip)
                  have HbP := Lib.hid hbP
                  have htk : l.take (k + 1) = l.take k ++ [y] := by rw [take_one l hkl, hy.out]
                  have Htk := Lib.hid htk
                  clear hoZ hn3 z0 z2 y2 c1 hbP htk
                  rcases Bool.eq_false_or_eq_true bt with hb2 | hb2
                  · subst hb2
                    have hfl : ((l.take (k + 1)).filter (fun p => !(pAck x.num (r.sent f) p))) = ((l.take k).filter (fun p => !(pAck x.num (r.sent f) p))) ++ [y] := by
                      rw [Htk.out, List.filter_append]
                      congr 1
                      rw [List.filter_cons, ← HbP.out]
                      rfl
                    have Hfl := Lib.hid hfl
                    have y0 := cell_n HZQ.out 0 (v := .int .i64 y.frm) rfl
                    have y1 := cell_n HZQ.out 1 (v := .int .i64 y.to) rfl
                    have y2 := cell_n HZQ.out 2 (v := .int .i64 y.num) rfl
                    have y3 := cell_n HZQ.out 3 (v := .bool y.ack) rfl
                    have y4 := cell_n HZQ.out 4 (v := str y.body) rfl
                    clear hfl
                    go_wp2_with (at_builtin; refine wpList_push_at rfl _ _ 28 rfl (X + 1) 34 _ 5 48 Try.underlying28 info_pkt rfl _ _ _ rfl HoZ.out _ rfl rfl (rowP_one y) (by unfold maxLen; omega) (by omega) (by have := HbZ.out.size; have := HSl.out; omega) ?_)
                    intro v9 w9 ho9 hg9 hb9
                    obtain ⟨a9, c9, rfl⟩ := owns_slice ho9
                    have Ho9 : Hid (w9.ownsRow (X + 1) 34 5 (.slice a9 (m + 1) c9) (m + 1) (((l.take (k + 1)).filter (fun p => !(pAck x.num (r.sent f) p))).flatMap rowP)) := by
                      show World.ownsRow _ _ _ _ _ _ _
                      rw [Hfl.out, List.flatMap_append]
                      exact ho9
                    have Hb9 : Hid (Below (X + 1) V2 w9) := HbZ.out.trans (below_own HoZ.out hg9 (Nat.le_refl _) (by have := HbZ.out.size; have := HSl.out; omega))
                    have Hl9 : Hid (((l.take (k + 1)).filter (fun p => !(pAck x.num (r.sent f) p))).length = m + 1) := by show _ = _; rw [Hfl.out, List.length_append, hlen.out]; rfl
                    clear ho9 hg9 hb9 y0 y1 y2 y3 y4
                    go_wp2_with fail
                    go_roundw
                    case rel => exact ⟨k + 1, m + 1, a9, c9, by go_num, by omega, rfl, by omega, Ho9, Hl9, Hb9⟩
                    case measure => simp [intOf]; omega
                  · subst hb2
                    have hfl : ((l.take (k + 1)).filter (fun p => !(pAck x.num (r.sent f) p))) = ((l.take k).filter (fun p => !(pAck x.num (r.sent f) p))) := by
                      rw [Htk.out, List.filter_append, List.filter_cons, ← HbP.out]
                      exact List.append_nil _
                    have Ho9 : Hid (Z.ownsRow (X + 1) 34 5 (.slice a m c) m (((l.take (k + 1)).filter (fun p => !(pAck x.num (r.sent f) p))).flatMap rowP)) := by show World.ownsRow _ _ _ _ _ _ _; rw [hfl]; exact HoZ.out
                    have Hl9 : Hid (((l.take (k + 1)).filter (fun p => !(pAck x.num (r.sent f) p))).length = m) := by show _ = _; rw [hfl]; exact hlen.out
                    clear hfl
                    go_wp2_with fail
                    go_roundw
                    case rel => exact ⟨k + 1, m, a, c, by go_num, by omega, rfl, by omega, Ho9, Hl9, HbZ⟩
                    case measure => simp [intOf]; omega
            · subst hb1
              have hkl : k = l.length := by have h := of_decide_eq_false hbk.out; omega
              have Hkl := Lib.hid hkl
              clear hkl
              have d2 := cell_n HBU.out (11 + f) (cellsR_wait hf10)
              have g2 := free_n HBU.out (11 + f)
              rw [Hv.out] at d2
              have HE7 : Hid (∀ o, post (.returned (.tuple #[.slice none 0 0, .slice none 0 0])) ((U.setCell ⟨B, 11 + f, none⟩ (.slice a m c)).drewN o)) := fun o => by
                have hlk : l.take k = r.wait f := by rw [Hkl.out, List.take_length, hl.out]
                have h1 := HoU.out
                have h2 := hlen.out
                have h3 := HbU.out
                rw [hlk] at h1 h2
                rw [← HWs.out] at h1 h3
                obtain ⟨e1, e2⟩ := ackR_fin Hfam.out Hblk.out hGB HWc.out HWs.out h3 hf10 h1 h2
                exact Hfin.out _ _ _ _ [] [] _ rfl Hr.out (World.ownsRow_nil _ _ _ _) (World.ownsRow_nil _ _ _ _) ((e1.agree (Agree.drewN _ _ o)).weak (fun g _ h => h.imp id (fun h => by omega))) (e2.trans (Chg.drewN G _ o))
              clear z0
              have z0 := cell_n HXU.out 0 (v := .int .i64 x.frm) rfl
              rw [Hf.out] at z0
              go_upto_region 11 with fail
              go_region
              all_goals
                go_wp2_with fail
                exact HE7.out 1
end Go.Proofs.Ytckclacdmpcpbaa
