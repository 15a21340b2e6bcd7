/-
  Entries put behind an index: the document's way.
-/
import Derived.Test.YtlknkhmhdmpdkaaLe
namespace Go.Proofs.Ytlknkhmhdmpdkaa
open Go.RowKit Wm Mm Lg
set_option linter.unusedVariables false
set_option linter.unusedSimpArgs false

theorem setAll_cell {w : World} {b : Nat} (vs : List Value) {a : Addr} (h : b ≠ a.block) : (setAll w b vs).cell? a = w.cell? a := World.cell?_of_block (setFrom_other h vs w 0)
theorem grown_fresh0 {w w' : World} {B : Nat} (hg : w.grownBy w' (Value.slice none 0 0).ownBlock) (hB : B ≤ w.heap.size) : Below B w w' :=
  ⟨hg.os, hg.tape, hg.output, hg.size, fun k hk => hg.block k (by omega) (by simp [Value.ownBlock])⟩
/-- append from any source, at a step of a region that draws its order -/
theorem step_append_src {P : Program} {w : World} {ops : Array Oper} {o : Oper} {a : Act} {K : Act → World → Prop} {Q : Exit → Act → World → Prop} {E : Prop} (hgd : o.guard = none) (s x : Operand) (t tx : TypeId)
    (ho : o.op = .call { callee := .builtin .append, args := #[s, x], argTypes := #[t, tx] })
    (base : Nat) (e : TypeId) (z : Value) (size bytes : Nat) (ht : P.underlying t = some (.slice e))
    (hinfo : (P.info? e).map (fun i => (i.zero, i.size, i.bytes)) = some (some z, size, bytes)) (hzs : z.cells.size = size)
    (v : Value) (n : Nat) (xs : List Value) (hs : a.eval s = v) (hown : w.ownsRow base e size v n xs)
    (xv : Value) (m : Nat) (news : List Value) (hx : a.eval x = xv) (hsrc : Src P size tx xv m news w)
    (h63 : n + m ≤ maxLen) (hbytes : (n + m) * bytes ≤ 140737488355328) (hbase : base ≤ w.heap.size)
    (h : ∀ v' w', w'.ownsRow base e size v' (n + m) (xs ++ news) → w.grownBy w' v.ownBlock → K (a.put o.dst v') w') :
    if Region.wanted o (yielded ops a.tmps) = true then Oper.wp P o a w K Q else E := by
  have hw : Region.wanted o (yielded ops a.tmps) = true := by simp [Region.wanted, hgd]
  rw [if_pos hw]
  obtain ⟨i, hi, hz0, hz1, hz2⟩ := info_parts hinfo
  obtain ⟨v', w', hr, h2, h3⟩ := run_append_src (P := P) w base t tx o.type e i z size bytes ht hi hz0 hz1 hz2 hzs v n xs hown xv m news hsrc h63 hbytes hbase
  unfold Oper.wp execOp
  simp only [ho, resolve, invoke, builtin, Sem.run_bind, Sem.run_pure, Result.andThen_ok, List.map_toArray, List.map_cons, List.map_nil, hs, hx, hr]
  exact h v' w' h2 h3

set_option maxHeartbeats 4000000 in
set_option maxRecDepth 100000 in
theorem ref_extend (base bt prev term : Int) (ev ev2 : Value) (l es : List EntP) (F G : Nat → Prop) (w : World) (h : Ents F w ev l) (hk : Ok base l) (h2 : Ents G w ev2 es) (hbh : Behind prev es) (hp0 : 0 ≤ prev) (hp1 : prev ≤ 1099511627775) (hn : l.length + es.length ≤ 2199023255552) :
    Calls Try.prog 39 #[vLog base bt ev, .int .i64 prev, .int .i64 term, ev2] w fun e w' => ∃ v', e = .returned (.tuple #[vLog base bt v', .int .i64 (ext base bt l prev term es).mat, .int .i64 (ext base bt l prev term es).first, .int .i64 (ext base bt l prev term es).look]) ∧ Ents (fun _ => True) w' v' (ext base bt l prev term es).es ∧ Below w.heap.size w w' := by
  obtain ⟨X, hX⟩ := hide (ext base bt l prev term es)
  rw [hX.out]
  obtain ⟨post, HP⟩ := hide (fun (e : Ending) (w' : World) => ∃ v', e = .returned (.tuple #[vLog base bt v', .int .i64 X.mat, .int .i64 X.first, .int .i64 X.look]) ∧ Ents (fun _ => True) w' v' X.es ∧ Below w.heap.size w w')
  rw [HP.out]
  obtain ⟨ao, cap, rfl, hcap, hmax⟩ := h.slice
  obtain ⟨ao2, cap2, rfl, hcap2, hmax2⟩ := h2.slice
  obtain ⟨W, hW⟩ := hide ((w.alloc (.cells (oLog base bt (.slice ao l.length cap)) 52)).alloc (.cells (oLog 0 0 (.slice none 0 0)) 52))
  have hb0' : Below w.heap.size w W := by rw [← hW.out]; exact ((Below.refl _ _).alloc (Nat.le_refl _) _).alloc (by simp) _
  have hl2 := (h.weak (G := fun k => k < w.heap.size) (Plain.good _) (fun k _ h => h)).frame (Plain.good _) (Agree.below hb0')
  have he2 := (h2.weak (G := fun k => k < w.heap.size) (Plain.good _) (fun k _ h => h)).frame (Plain.good _) (Agree.below hb0')
  obtain ⟨B, hB⟩ := hide w.heap.size
  have hc : W.heap[B]? = some (.cells (oLog base bt (.slice ao l.length cap)) 52 (0, 0)) := by rw [← hW.out, ← hB.out]; exact (hp_past _ _ (by simp)).trans (hp_at _ _ rfl)
  have hd : W.heap[B + 1]? = some (.cells (oLog 0 0 (.slice none 0 0)) 52 (0, 0)) := by rw [← hW.out, ← hB.out]; exact hp_at _ _ (by simp)
  have hsz : W.heap.size = B + 2 := by rw [← hW.out, ← hB.out]; simp
  rw [hB.out] at hb0' he2 hl2
  have Hx : Hid (∀ w', Below W.heap.size W w' → w'.heap[B]? = some (.cells (oLog base bt (.slice ao l.length cap)) 52 (0, 0)) ∧ w'.heap[B + 1]? = some (.cells (oLog 0 0 (.slice none 0 0)) 52 (0, 0)) ∧ Below B w w') :=
    fun w' hh => ⟨(hh.block _ (lt_of_block hc)).trans hc, (hh.block _ (lt_of_block hd)).trans hd, hb0'.trans (hh.mono (by omega))⟩
  have HFl : Hid (∀ w', Below W.heap.size W w' → Ents (fun k => k < B) w' (.slice ao l.length cap) l) := fun w' hb => hl2.frame (Plain.good _) (Agree.below hb)
  have HFe : Hid (∀ w', Below W.heap.size W w' → Ents (fun k => k < B) w' (.slice ao2 es.length cap2) es) := fun w' hb => he2.frame (Plain.good _) (Agree.below hb)
  have HE : Hid (∀ w', Below W.heap.size W w' → Calls Try.prog 116 #[vLog base bt (.slice ao l.length cap)] w' fun e w'' => e = .returned (.int .i64 (base + l.length)) ∧ Below w'.heap.size w' w'') := fun w' hb => ref_end base bt _ l _ w' (HFl.out w' hb) hk
  have HT : Hid (∀ w' i, Below W.heap.size W w' → 0 ≤ i → i ≤ 4398046511104 → Calls Try.prog 47 #[vLog base bt (.slice ao l.length cap), .int .i64 i] w' fun e w'' => e = .returned (.tuple #[.int .i64 (termAt base bt l i).1, .int .i64 (termAt base bt l i).2]) ∧ Below w'.heap.size w' w'') := fun w' i hb h1 h2 => ref_termAt base bt i _ l _ w' (HFl.out w' hb) hk (by omega) h2
  have HH : Hid (∀ w' i, Below W.heap.size W w' → base ≤ i → i ≤ 4398046511104 → Calls Try.prog 117 #[vLog base bt (.slice ao l.length cap), .int .i64 i] w' fun e w'' => e = .returned (.int .i64 (firstOf base bt l i)) ∧ Below w'.heap.size w' w'') := fun w' i hb h1 h2 => ref_first base bt i _ l _ w' (HFl.out w' hb) hk h1 h2
  have Hk := Lib.hid hk
  have Hsz := Lib.hid hsz
  have hsk := skip_behind base es prev term hbh
  have hXd : (let s := skip base prev term es; if s.1 < base then (⟨l, s.1, 0, 0⟩ : Ext) else if termAt base bt l s.1 = (s.2.1, 0) then ⟨(put base bt l 0 s.2.2).1, lastI s.1 s.2.2, (put base bt l 0 s.2.2).2, 0⟩ else ⟨l, 0, 0, hintOf base bt l s.1⟩) = X := hX.out
  obtain ⟨sk, hskd⟩ := hide (skip base prev term es)
  rw [hskd.out] at hsk
  simp only [hskd.out] at hXd
  have Hsk := Lib.hid hsk
  have HXd := Lib.hid hXd
  have hb1 := hk.b0
  have hb2 := hk.b1
  have Hn := Lib.hid hn
  have Hp1 := Lib.hid hp1
  have hln : l.length ≤ 2199023255552 := hk.n
  have hen : es.length ≤ 2199023255552 := by omega
  clear h hk h2 hc hd hb0' hsz hl2 he2 hsk hXd hbh hn hp1 hp0 hmax hmax2
  go_enter Try.func39, Try.ntmps39
  go_upto_block 0 with fail
  rw [hW.out, hB.out]
  go_cut [1, 2, 12] (fun p t i wx => ∃ k : Nat, p = .int .i64 sk.1 ∧ t = .int .i64 sk.2.1 ∧ i = .int .i64 k ∧ k ≤ es.length ∧ Hid (Below W.heap.size W wx) ∧ Hid (es.drop k = sk.2.2))
  case first =>
    go_wp2_with fail
    go_loopw [1, 2, 12] (fun p t i wr => ∃ (p' t' : Int) (k : Nat), p = .int .i64 p' ∧ t = .int .i64 t' ∧ i = .int .i64 k ∧ k ≤ es.length ∧ Hid (Below W.heap.size W wr) ∧ Hid (skip base p' t' (es.drop k) = sk)) (fun _ _ i _ => es.length - (intOf i).toNat)
    case atStart => exact ⟨prev, term, 0, rfl, rfl, rfl, Nat.zero_le _, Below.refl _ _, hskd⟩
    case round =>
      obtain ⟨p', t', k, rfl, rfl, rfl, hk, hb, hs⟩ := hrel
      have x0 := (Hx.out _ hb.out).1
      have c0 := cell_n x0 0 (v := .int .i64 base) rfl
      clear x0
      by_cases hlt : k < es.length
      · have hd := List.drop_eq_getElem_cons hlt
        obtain ⟨b, off, us, hao, _, _, hus, hcs⟩ := (HFe.out _ hb.out).at hlt
        obtain ⟨x, hx⟩ := hide es[k]
        rw [hx.out] at hd hus
        have e1 : us = rowE x := hus
        subst e1
        by_cases hpb : p' < base
        · have Hs2 : Hid (skip base x.idx x.trm (es.drop (k + 1)) = sk) := by show _ = _; rw [← hs.out, hd, skip, if_pos hpb]
          subst hao
          have d0 := hcs 0 _ rfl
          have d1 := hcs 1 _ rfl
          rw [Nat.add_zero] at d0
          clear hcs hus hd
          go_wp2_with fail
          go_roundw
          case rel => exact ⟨_, _, k + 1, rfl, rfl, by go_num, hlt, hb, Hs2⟩
          case measure => simp [intOf]; omega
        · have e1 : (p', t', es.drop k) = sk := by rw [← hs.out, hd, skip, if_neg hpb]
          subst e1
          clear hcs hus hd hao
          go_wp2_with fail
          go_meet
          exact ⟨k, rfl, rfl, rfl, hk, hb, rfl⟩
      · have e1 : (p', t', es.drop k) = sk := by
          have : es.drop k = [] := List.drop_eq_nil_of_le (by omega)
          rw [← hs.out, this]; rfl
        subst e1
        go_wp2_with fail
        go_meet
        exact ⟨k, rfl, rfl, rfl, hk, hb, rfl⟩
  case rest =>
  obtain ⟨k, rfl, rfl, rfl, hke, hb, hr⟩ := hcut
  obtain ⟨p, t, r⟩ := sk
  simp only [] at Hsk HXd hr ⊢
  obtain ⟨hbh, hp2, hp3, hp4⟩ := Hsk.out
  have hrl : r.length = es.length - k := by rw [← hr.out, List.length_drop]
  have Hbh := Lib.hid hbh
  have hpm : p ≤ 3298534883327 := by have := Hn.out; have := Hp1.out; omega
  have Hrl := Lib.hid hrl
  clear hbh hp2 hp3 hp4 hrl
  have x0 := Hx.out _ hb.out
  have c0 := cell_n x0.1 0 (v := .int .i64 base) rfl
  have c1 := cell_n x0.1 1 (v := .int .i64 bt) rfl
  have c2 := cell_n x0.1 2 (v := .slice ao l.length cap) rfl
  clear x0
  by_cases a1 : p < base
  · obtain rfl : (⟨l, p, 0, 0⟩ : Ext) = X := by rw [← HXd.out, if_pos a1]
    have y0 := Hx.out _ hb.out
    have g0 := free_n y0.2.1 0
    have g1 := free_n y0.2.1 1
    have g2 := free_n y0.2.1 2
    have q0 := cell_n y0.2.1 0 (v := .int .i64 0) rfl
    have q1 := cell_n y0.2.1 1 (v := .int .i64 0) rfl
    have q2 := cell_n y0.2.1 2 (v := .slice none 0 0) rfl
    have HE9 := Lib.hid (setAll_at (xs := [.int .i64 0, .int .i64 0, .slice none 0 0]) y0.2.1 [.int .i64 base, .int .i64 bt, .slice ao l.length cap] rfl)
    have HB9 := Lib.hid (setAll_below y0.2.2 (Nat.le_succ B) [.int .i64 base, .int .i64 bt, .slice ao l.length cap])
    have HO9 : Hid (Ents (fun k => k < B) (setAll wc (B + 1) [.int .i64 base, .int .i64 bt, .slice ao l.length cap]) (.slice ao l.length cap) l) := (HFl.out _ hb.out).frame (Plain.good _) ⟨by rw [setAll, setFrom_size]; exact Nat.le_refl _, fun k h1 _ => setFrom_other (by omega) _ _ 0⟩
    clear y0
    go_wp2_with fail
    change bodyPost _ _ _ Exit.ret _ (setAll wc (B + 1) [.int .i64 base, .int .i64 bt, .slice ao l.length cap])
    generalize setAll wc (B + 1) [.int .i64 base, .int .i64 bt, .slice ao l.length cap] = W9 at HE9 HB9 HO9 ⊢
    clear q0 q1 q2
    have q0 := cell_n HE9.out 0 (v := .int .i64 base) rfl
    have q1 := cell_n HE9.out 1 (v := .int .i64 bt) rfl
    have q2 := cell_n HE9.out 2 (v := .slice ao l.length cap) rfl
    refine bodyPost_ret (by simp [results, Try.results39, go_sem, q0, q1, q2]; rfl) rfl ?_
    rw [← HP.out]
    exact ⟨_, rfl, HO9.out.weak (Plain.good _) (fun _ _ _ => trivial), by rw [hB.out]; exact HB9.out⟩
  have hX2 : (if termAt base bt l p = (t, 0) then (⟨(put base bt l 0 r).1, lastI p r, (put base bt l 0 r).2, 0⟩ : Ext) else ⟨l, 0, 0, hintOf base bt l p⟩) = X := by rw [← HXd.out, if_neg a1]
  have HX2 := Lib.hid hX2
  clear hX2
  have HT1 := Lib.hid (HT.out _ p hb.out (by omega) (by omega))
  by_cases a2 : base + l.length < p
  · have hu : termAt base bt l p = (0, 12) := termAt_far (by omega) a2
    rw [hu] at HT1 HX2
    obtain rfl : (⟨l, 0, 0, base + l.length + 1⟩ : Ext) = X := by rw [← HX2.out, if_neg (by intro h; cases h), hintOf, if_pos a2]
    have Hu := Lib.hid hu
    have hwr : IntKind.i64.wrap (base + (l.length : Int) + 1) = base + (l.length : Int) + 1 := IntWalk.i64_in _ (by omega)
    clear hu
    go_wp2_with fail
    refine HT1.out.mono ?_
    rintro e w6 ⟨rfl, hbb⟩
    have Hb6 := Lib.hid (hb.out.trans (hbb.mono hb.out.size))
    clear hbb c0 c1 c2
    have H0 : Hid (Below W.heap.size W w6.drew) := Hb6.out.drew
    go_upto_region 10 with fail
    have x0 := Hx.out _ H0.out
    have c0 : w6.drew.cell? ⟨B, 0, none⟩ = some (.int .i64 base) := cell_n x0.1 0 rfl
    have c1 : w6.drew.cell? ⟨B, 1, none⟩ = some (.int .i64 bt) := cell_n x0.1 1 rfl
    have c2 : w6.drew.cell? ⟨B, 2, none⟩ = some (.slice ao l.length cap) := cell_n x0.1 2 rfl
    clear x0
    go_region_held3 (fun w' => w'.cell? ⟨B, 0, none⟩ = some (.int .i64 base) ∧ w'.cell? ⟨B, 1, none⟩ = some (.int .i64 bt) ∧ w'.cell? ⟨B, 2, none⟩ = some (.slice ao l.length cap))
      (first | with_reducible exact ⟨c0, c1, c2⟩ | exact hset)
      (first
      | (go_at_call 116; (with_reducible refine (HE.out _ H0.out).mono ?_); rintro e V2 ⟨rfl, hbb⟩; have H2 := Lib.hid (H0.out.trans (hbb.mono H0.out.size)); have x1 := (Hx.out _ H2.out).1; have c0 : V2.cell? ⟨B, 0, none⟩ = some (.int .i64 base) := cell_n x1 0 rfl; have c1 : V2.cell? ⟨B, 1, none⟩ = some (.int .i64 bt) := cell_n x1 1 rfl; have c2 : V2.cell? ⟨B, 2, none⟩ = some (.slice ao l.length cap) := cell_n x1 2 rfl; have x2 := setAll_other (b := B + 1) x1 (by omega) [.int .i64 base, .int .i64 bt, .slice ao l.length cap]; have hset : (setAll V2 (B + 1) [.int .i64 base, .int .i64 bt, .slice ao l.length cap]).cell? ⟨B, 0, none⟩ = some (.int .i64 base) ∧ (setAll V2 (B + 1) [.int .i64 base, .int .i64 bt, .slice ao l.length cap]).cell? ⟨B, 1, none⟩ = some (.int .i64 bt) ∧ (setAll V2 (B + 1) [.int .i64 base, .int .i64 bt, .slice ao l.length cap]).cell? ⟨B, 2, none⟩ = some (.slice ao l.length cap) := ⟨cell_n x2 0 rfl, cell_n x2 1 rfl, cell_n x2 2 rfl⟩; have y1 := (Hx.out _ H2.out).2.1; have q0 : V2.cell? ⟨B + 1, 0, none⟩ = some (.int .i64 0) := cell_n y1 0 rfl; have q1 : V2.cell? ⟨B + 1, 1, none⟩ = some (.int .i64 0) := cell_n y1 1 rfl; have q2 : V2.cell? ⟨B + 1, 2, none⟩ = some (.slice none 0 0) := cell_n y1 2 rfl; have g0 := free_n y1 0; have g1 := free_n y1 1; have g2 := free_n y1 2; clear x2 y1 hbb x1))
    clear q0 q1 q2 g0 g1 g2 c0 c1 c2 hset
    have y0 := Hx.out _ H2.out
    have g0 := free_n y0.2.1 0
    have g1 := free_n y0.2.1 1
    have g2 := free_n y0.2.1 2
    have q0 := cell_n y0.2.1 0 (v := .int .i64 0) rfl
    have q1 := cell_n y0.2.1 1 (v := .int .i64 0) rfl
    have q2 := cell_n y0.2.1 2 (v := .slice none 0 0) rfl
    have HE9 := Lib.hid (setAll_at (xs := [.int .i64 0, .int .i64 0, .slice none 0 0]) y0.2.1 [.int .i64 base, .int .i64 bt, .slice ao l.length cap] rfl)
    have HB9 := Lib.hid (setAll_below y0.2.2 (Nat.le_succ B) [.int .i64 base, .int .i64 bt, .slice ao l.length cap])
    have HO9 : Hid (Ents (fun k => k < B) (setAll V2 (B + 1) [.int .i64 base, .int .i64 bt, .slice ao l.length cap]) (.slice ao l.length cap) l) := (HFl.out _ H2.out).frame (Plain.good _) ⟨by rw [setAll, setFrom_size]; exact Nat.le_refl _, fun k h1 _ => setFrom_other (by omega) _ _ 0⟩
    clear y0
    clear g0 g1 g2
    go_wp2_with fail
    change bodyPost _ _ _ Exit.ret _ (setAll V2 (B + 1) [.int .i64 base, .int .i64 bt, .slice ao l.length cap])
    generalize setAll V2 (B + 1) [.int .i64 base, .int .i64 bt, .slice ao l.length cap] = W9 at HE9 HB9 HO9 ⊢
    clear q0 q1 q2
    have q0 := cell_n HE9.out 0 (v := .int .i64 base) rfl
    have q1 := cell_n HE9.out 1 (v := .int .i64 bt) rfl
    have q2 := cell_n HE9.out 2 (v := .slice ao l.length cap) rfl
    refine bodyPost_ret (by simp [results, Try.results39, go_sem, q0, q1, q2]; rfl) rfl ?_
    rw [← HP.out]
    exact ⟨_, rfl, HO9.out.weak (Plain.good _) (fun _ _ _ => trivial), by rw [hB.out]; exact HB9.out⟩
  have hle : p ≤ base + l.length := by omega
  by_cases a3 : termAt base bt l p = (t, 0)
  case neg =>
    obtain rfl : (⟨l, 0, 0, firstOf base bt l p⟩ : Ext) = X := by rw [← HX2.out, if_neg a3, hintOf, if_neg a2]
    have hu2 : (termAt base bt l p).2 = 0 := by
      by_cases h : p = base
      · rw [h, termAt_base]
      · obtain ⟨_, e⟩ := termAt_in (bt := bt) (es := l) (i := p) (base := base) (by omega) hle
        rw [e]
    have hu1 : ((termAt base bt l p).1 == t) = false := beq_eq_false_iff_ne.2 (fun h1 => a3 (by rw [← h1, ← hu2]))
    have HH1 : Hid (∀ w', Below W.heap.size W w' → Calls Try.prog 117 #[vLog base bt (.slice ao l.length cap), .int .i64 p] w' fun e w'' => e = .returned (.int .i64 (firstOf base bt l p)) ∧ Below w'.heap.size w' w'') := fun w' hh => HH.out w' p hh (by omega) (by omega)
    obtain ⟨ff, hff⟩ := hide (firstOf base bt l p)
    rw [hff.out] at HH1 HP
    rw [hu2] at HT1
    obtain ⟨u1, hu⟩ := hide (termAt base bt l p).1
    rw [hu.out] at HT1 hu1
    have t3 : (u1 != t) = true := by rw [bne, hu1]; rfl
    have A3 := Lib.hid a3
    have Hu2 := Lib.hid hu2
    clear a3 hu2
    go_wp2_with fail
    refine HT1.out.mono ?_
    rintro e w6 ⟨rfl, hbb⟩
    have Hb6 := Lib.hid (hb.out.trans (hbb.mono hb.out.size))
    clear hbb c0 c1 c2
    have x0 := Hx.out _ Hb6.out
    have c0 := cell_n x0.1 0 (v := .int .i64 base) rfl
    have c1 := cell_n x0.1 1 (v := .int .i64 bt) rfl
    have c2 := cell_n x0.1 2 (v := .slice ao l.length cap) rfl
    clear x0
    go_wp2_with fail
    refine (HH1.out _ Hb6.out).mono ?_
    rintro e w7 ⟨rfl, hbb⟩
    have Hb7 := Lib.hid (Hb6.out.trans (hbb.mono Hb6.out.size))
    clear hbb c0 c1 c2
    have x0 := Hx.out _ Hb7.out
    have c0 := cell_n x0.1 0 (v := .int .i64 base) rfl
    have c1 := cell_n x0.1 1 (v := .int .i64 bt) rfl
    have c2 := cell_n x0.1 2 (v := .slice ao l.length cap) rfl
    clear x0
    have y0 := Hx.out _ Hb7.out
    have g0 := free_n y0.2.1 0
    have g1 := free_n y0.2.1 1
    have g2 := free_n y0.2.1 2
    have q0 := cell_n y0.2.1 0 (v := .int .i64 0) rfl
    have q1 := cell_n y0.2.1 1 (v := .int .i64 0) rfl
    have q2 := cell_n y0.2.1 2 (v := .slice none 0 0) rfl
    have HE9 := Lib.hid (setAll_at (xs := [.int .i64 0, .int .i64 0, .slice none 0 0]) y0.2.1 [.int .i64 base, .int .i64 bt, .slice ao l.length cap] rfl)
    have HB9 := Lib.hid (setAll_below y0.2.2 (Nat.le_succ B) [.int .i64 base, .int .i64 bt, .slice ao l.length cap])
    have HO9 : Hid (Ents (fun k => k < B) (setAll w7 (B + 1) [.int .i64 base, .int .i64 bt, .slice ao l.length cap]) (.slice ao l.length cap) l) := (HFl.out _ Hb7.out).frame (Plain.good _) ⟨by rw [setAll, setFrom_size]; exact Nat.le_refl _, fun k h1 _ => setFrom_other (by omega) _ _ 0⟩
    clear y0
    go_wp2_with fail
    change bodyPost _ _ _ Exit.ret _ (setAll w7 (B + 1) [.int .i64 base, .int .i64 bt, .slice ao l.length cap])
    generalize setAll w7 (B + 1) [.int .i64 base, .int .i64 bt, .slice ao l.length cap] = W9 at HE9 HB9 HO9 ⊢
    clear q0 q1 q2
    have q0 := cell_n HE9.out 0 (v := .int .i64 base) rfl
    have q1 := cell_n HE9.out 1 (v := .int .i64 bt) rfl
    have q2 := cell_n HE9.out 2 (v := .slice ao l.length cap) rfl
    refine bodyPost_ret (by simp [results, Try.results39, go_sem, q0, q1, q2]; rfl) rfl ?_
    rw [← HP.out]
    exact ⟨_, rfl, HO9.out.weak (Plain.good _) (fun _ _ _ => trivial), by rw [hB.out]; exact HB9.out⟩
  case pos =>
    have hpe := put_ref (bt := bt) r l p hb1 (by omega) hle Hbh.out
    obtain rfl : (⟨(refPut base bt l r).1, lastI p r, (refPut base bt l r).2, 0⟩ : Ext) = X := by rw [← HX2.out, if_pos a3, hpe]
    obtain ⟨O, hO⟩ := hide (refPut base bt l r)
    rw [hO.out, Hbh.out.last] at HP
    rw [a3] at HT1
    have A3 := Lib.hid a3
    have hme : p + (r.length : Int) = p + (es.length : Int) - (k : Int) := by rw [Hrl.out]; omega
    have Hme := Lib.hid hme
    have Hle := Lib.hid hle
    clear a3 hpe hle hme
    go_wp2_with fail
    refine HT1.out.mono ?_
    rintro e w6 ⟨rfl, hbb⟩
    have Hb6 := Lib.hid (hb.out.trans (hbb.mono hb.out.size))
    clear hbb c0 c1 c2
    go_wp2_with fail
    go_loopw [16, 13, 14] (fun i _ _ wr => ∃ j : Nat, i = .int .i64 j ∧ k ≤ j ∧ j ≤ es.length ∧ Hid (Below W.heap.size W wr) ∧ Hid (refPut base bt l (es.drop j) = O) ∧ Hid (p + (j : Int) - k ≤ base + l.length)) (fun i _ _ _ => es.length - (intOf i).toNat)
    case atStart => exact ⟨k, rfl, Nat.le_refl _, hke, Hb6, by show _ = _; rw [hr.out]; exact hO.out, by show _ ≤ _; have := Hle.out; omega⟩
    case round =>
      obtain ⟨j, rfl, hkj, hj, hbr, hput, hpl⟩ := hrel
      by_cases hlt : j < es.length
      · have hd := List.drop_eq_getElem_cons hlt
        have hxi : es[j].idx = p + 1 + ((j - k : Nat) : Int) := by
          have hjr : j - k < r.length := by rw [Hrl.out]; omega
          have h1 := Hbh.out (j - k) hjr
          have h2 : r[j - k] = es[j] := by
            have h3 : (es.drop k)[j - k]? = es[j]? := by rw [List.getElem?_drop]; congr 1; omega
            rw [hr.out, List.getElem?_eq_getElem hjr, List.getElem?_eq_getElem hlt] at h3
            injection h3
          rw [← h2]; exact h1
        obtain ⟨mm, hmm⟩ : ∃ mm : Nat, es[j].idx = base + 1 + mm := ⟨(es[j].idx - base - 1).toNat, by omega⟩
        have hmml : mm ≤ l.length := by have := hpl.out; omega
        have hput2 : refPut base bt l (es[j] :: es.drop (j + 1)) = O := by rw [← hput.out, hd]
        have hde : es.drop j = es[j] :: es.drop (j + 1) := hd
        obtain ⟨b, off, us, rfl, hbB, _, hus, hcs⟩ := (HFe.out _ hbr.out).at hlt
        have hfar : ∀ w', Below W.heap.size W w' → w'.cell? ⟨b, off + j * 4, none⟩ = some (.int .i64 es[j].idx) ∧ w'.cell? ⟨b, off + j * 4 + 1, none⟩ = some (.int .i64 es[j].trm) := by
          intro w' hh
          obtain ⟨b', off', us', e1, _, _, hus', hcs'⟩ := (HFe.out _ hh).at hlt
          injection e1 with e1
          injection e1 with e1 e2
          subst e1 e2
          have e3 : us' = rowE es[j] := hus'
          subst e3
          have d0 := hcs' 0 _ rfl
          rw [Nat.add_zero] at d0
          exact ⟨d0, hcs' 1 _ rfl⟩
        obtain ⟨x, hx⟩ := hide es[j]
        rw [hx.out] at hd hus hxi hmm hput2 hfar hde
        rw [hmm] at hfar
        have Hfar := Lib.hid hfar
        have Hmm := Lib.hid hmm
        have Hput2 := Lib.hid hput2
        have Hde := Lib.hid hde
        have Hxi := Lib.hid hxi
        have H0 : Hid (Below W.heap.size W wr.drew) := hbr.out.drew
        have HT2 : Hid (∀ w', Below W.heap.size W w' → Calls Try.prog 47 #[vLog base bt (.slice ao l.length cap), .int .i64 (base + 1 + mm)] w' fun e w'' => e = .returned (.tuple #[.int .i64 (termAt base bt l (base + 1 + mm)).1, .int .i64 (termAt base bt l (base + 1 + mm)).2]) ∧ Below w'.heap.size w' w'') := fun w' hh => HT.out w' _ hh (by omega) (by omega)
        obtain ⟨u, hu⟩ := hide (termAt base bt l (base + 1 + mm))
        rw [hu.out] at HT2
        have hfit : fits base bt l x = decide (u = (x.trm, 0)) := by unfold fits; rw [hmm, hu.out]
        have Hfit := Lib.hid hfit
        obtain ⟨u1, u2⟩ := u
        simp only [] at HT2
        clear hd hus hcs hxi hmm hput2 hfar hfit hde
        go_upto_region 17 with fail
        have x0 := Hx.out _ H0.out
        have c0 : wr.drew.cell? ⟨B, 0, none⟩ = some (.int .i64 base) := cell_n x0.1 0 rfl
        have c1 : wr.drew.cell? ⟨B, 1, none⟩ = some (.int .i64 bt) := cell_n x0.1 1 rfl
        have c2 : wr.drew.cell? ⟨B, 2, none⟩ = some (.slice ao l.length cap) := cell_n x0.1 2 rfl
        have d0 : wr.drew.cell? ⟨b, off + j * 4, none⟩ = some (.int .i64 (base + 1 + mm)) := (Hfar.out _ H0.out).1
        have pj0 : (0 : Int) ≤ (j : Int) := by omega
        have pj1 : (j : Int) < (es.length : Int) := by omega
        clear x0
        go_region_held3 (fun w' => w'.cell? ⟨B, 0, none⟩ = some (.int .i64 base) ∧ w'.cell? ⟨B, 1, none⟩ = some (.int .i64 bt) ∧ w'.cell? ⟨B, 2, none⟩ = some (.slice ao l.length cap) ∧ w'.cell? ⟨b, off + j * 4, none⟩ = some (.int .i64 (base + 1 + mm)))
          (first | with_reducible exact ⟨c0, c1, c2, d0⟩)
          (first
          | (go_at_call 47; (with_reducible refine (HT2.out _ H0.out).mono ?_); rintro e V1 ⟨rfl, hbb⟩; have H1 := Lib.hid (H0.out.trans (hbb.mono H0.out.size)); have x1 := (Hx.out _ H1.out).1; have c0 : V1.cell? ⟨B, 0, none⟩ = some (.int .i64 base) := cell_n x1 0 rfl; have c1 : V1.cell? ⟨B, 1, none⟩ = some (.int .i64 bt) := cell_n x1 1 rfl; have c2 : V1.cell? ⟨B, 2, none⟩ = some (.slice ao l.length cap) := cell_n x1 2 rfl; have d0 := (Hfar.out _ H1.out).1; clear hbb x1))
        have d1 := (Hfar.out _ H1.out).2
        by_cases hf : fits base bt l x = true
        · have hu2 : u1 = x.trm ∧ u2 = 0 := by have := hf; rw [Hfit.out] at this; simpa using this
          obtain ⟨rfl, rfl⟩ := hu2
          have Hput3 : Hid (refPut base bt l (es.drop (j + 1)) = O) := by show _ = _; rw [← Hput2.out, refPut, if_pos hf]
          have Hpl3 : Hid (p + ((j + 1 : Nat) : Int) - k ≤ base + l.length) := by
            show _ ≤ _
            have h1 := fits_le hf (by have := Hmm.out; omega)
            have h2 := Hxi.out
            omega
          clear hf
          go_wp2_with fail
          go_roundw
          case rel => exact ⟨j + 1, by go_num, by omega, hlt, H1, Hput3, Hpl3⟩
          case measure => simp [intOf]; omega
        · have hO2 : (l.take mm ++ es.drop j, base + 1 + (mm : Int)) = O := by
            rw [← Hput2.out, refPut, if_neg hf, Hmm.out, show (base + 1 + (mm : Int) - base - 1).toNat = mm from by omega, ← Hde.out]
          subst hO2
          have hbr2 : ((u2 == 0) = false) ∨ ((u2 == 0) = true ∧ (u1 == x.trm) = false) := by
            by_cases h0 : u2 = 0
            · refine Or.inr ⟨beq_iff_eq.2 h0, beq_eq_false_iff_ne.2 (fun h1 => hf ?_)⟩
              rw [Hfit.out, h0, h1]; simp
            · exact Or.inl (beq_eq_false_iff_ne.2 h0)
          have Hf := Lib.hid hf
          have q1 : IntKind.i64.wrap (base + 1 + (mm : Int) - base) = 1 + (mm : Int) := by rw [IntWalk.i64_in _ (by omega)]; omega
          have q2 : IntKind.i64.wrap (1 + (mm : Int) - 1) = (mm : Int) := by rw [IntWalk.i64_in _ (by omega)]; omega
          have q3 : IntKind.i64.wrap (1 + (mm : Int)) = 1 + (mm : Int) := IntWalk.i64_in _ (by omega)
          have q4 : IntKind.i64.wrap (mm : Int) = (mm : Int) := IntWalk.i64_in _ (by omega)
          have pm0 : (0 : Int) ≤ (mm : Int) := by omega
          have pm1 : (mm : Int) ≤ (cap : Int) := by omega
          have q1' : base + 1 + (mm : Int) - base = 1 + (mm : Int) := by omega
          have htk : Ents (fun k => k < B) V1.drew (.slice ao mm cap) (l.take mm) := ((HFl.out _ H1.out).take hmml).frame (Plain.good _) (Agree.drew _ _)
          have htl : (l.take mm).length = mm := by rw [List.length_take]; omega
          obtain ⟨lt, hlt2⟩ := hide (l.take mm)
          rw [hlt2.out] at htk htl HP
          have hsrc := src_sl (P := Try.prog) (tx := 50) (ao := ao) (cap := cap) rowE Try.underlying50 (by decide) rowE_len rowE_one (by rw [htl]; exact htk)
          rw [htl] at hsrc
          have Hsrc := Lib.hid hsrc
          have Htl := Lib.hid htl
          clear hf htk htl hsrc
          rcases hbr2 with t1 | ⟨t1, t2⟩
          all_goals
            go_upto_region 20 with fail
            have x0 := Hx.out _ H1.out.drew
            have c0 : V1.drew.cell? ⟨B, 0, none⟩ = some (.int .i64 base) := cell_n x0.1 0 rfl
            have c1 : V1.drew.cell? ⟨B, 1, none⟩ = some (.int .i64 bt) := cell_n x0.1 1 rfl
            have c2 : V1.drew.cell? ⟨B, 2, none⟩ = some (.slice ao l.length cap) := cell_n x0.1 2 rfl
            have d0 : V1.drew.cell? ⟨b, off + j * 4, none⟩ = some (.int .i64 (base + 1 + mm)) := (Hfar.out _ H1.out.drew).1
            have hBz : B + 2 ≤ V1.drew.heap.size := by rw [← Hsz.out]; exact H1.out.size
            clear x0
            go_region_held3 (fun w' => w'.cell? ⟨B, 0, none⟩ = some (.int .i64 base) ∧ w'.cell? ⟨B, 1, none⟩ = some (.int .i64 bt) ∧ w'.cell? ⟨B, 2, none⟩ = some (.slice ao l.length cap) ∧ w'.cell? ⟨b, off + j * 4, none⟩ = some (.int .i64 (base + 1 + mm)))
              (first | with_reducible exact ⟨c0, c1, c2, d0⟩)
              ((refine step_append_src (by rfl) _ _ 50 50 (by rfl) (B + 2) 56 _ 4 40 Try.underlying50 info_ent rfl _ _ _ (by rfl) (World.ownsRow_nil _ _ _ _) _ _ _ (by rfl) Hsrc.out (by unfold maxLen; omega) (by omega) hBz ?_; intro v1 w1 ho1 hg1; rw [Nat.zero_add, List.nil_append] at ho1; obtain ⟨a1, c1', rfl⟩ := owns_slice ho1; have H2 : Hid (Below W.heap.size W w1) := H1.out.drew.trans (grown_fresh0 hg1 H1.out.size); have x1 := (Hx.out _ H2.out).1; have c0 : w1.cell? ⟨B, 0, none⟩ = some (.int .i64 base) := cell_n x1 0 rfl; have c1 : w1.cell? ⟨B, 1, none⟩ = some (.int .i64 bt) := cell_n x1 1 rfl; have c2 : w1.cell? ⟨B, 2, none⟩ = some (.slice ao l.length cap) := cell_n x1 2 rfl; have d0 := (Hfar.out _ H2.out).1; have Ho1 := Lib.hid ho1; clear ho1 hg1 x1))
            clear c0 c1 c2 d0
            have hs2 := Sl.drop (HFe.out _ H2.out) (k := j) (by omega)
            have hdl : (es.drop j).length = es.length - j := List.length_drop
            obtain ⟨ed, hed⟩ := hide (es.drop j)
            rw [hed.out] at hs2 hdl HP
            rw [← hdl] at hs2
            have hsrc2 := src_sl (P := Try.prog) (tx := 50) rowE Try.underlying50 (by decide) rowE_len rowE_one hs2
            rw [hdl] at hsrc2
            have Hsrc2 := Lib.hid hsrc2
            have Hdl := Lib.hid hdl
            have hBz2 : B + 2 ≤ w1.heap.size := by rw [← Hsz.out]; exact H2.out.size
            have pj2 : j ≤ cap2 := by omega
            have pj3 : cap2 ≠ j := by omega
            clear hs2 hdl hsrc2
            go_wp2_with (at_builtin; refine wpList_append_src rfl _ _ 50 50 rfl (B + 2) 56 _ 4 40 Try.underlying50 info_ent rfl _ _ _ rfl Ho1.out _ _ _ rfl Hsrc2.out (by have := Hn.out; unfold maxLen; omega) (by have := Hn.out; omega) hBz2 ?_)
            intro v2 w2 ho2 hg2
            obtain ⟨a2, c2', rfl⟩ := owns_slice ho2
            have H3 : Hid (Below W.heap.size W w2) := H2.out.trans (below_own Ho1.out hg2 (by rw [Hsz.out]; exact Nat.le_refl _) H2.out.size)
            have Ho2 := Lib.hid ho2
            clear ho2 hg2
            have hps : (lt ++ ed).flatMap rowE = lt.flatMap rowE ++ ed.flatMap rowE := by simp
            have hpl2 : (lt ++ ed).length = mm + (es.length - j) := by rw [List.length_append, Htl.out, Hdl.out]
            have Ho3 : Hid (OwnE (B + 2) w2 (.slice a2 (mm + (es.length - j)) c2') (lt ++ ed)) := by show World.ownsRow _ _ _ _ _ _ _; rw [hps, hpl2]; exact Ho2.out
            have x0 := Hx.out _ H3.out.drew
            have c0 : w2.drew.cell? ⟨B, 0, none⟩ = some (.int .i64 base) := cell_n x0.1 0 rfl
            have c1 : w2.drew.cell? ⟨B, 1, none⟩ = some (.int .i64 bt) := cell_n x0.1 1 rfl
            have d0 : w2.drew.cell? ⟨b, off + j * 4, none⟩ = some (.int .i64 (base + 1 + mm)) := (Hfar.out _ H3.out.drew).1
            have g0 := free_n x0.2.1 0
            have g1 := free_n x0.2.1 1
            have g2 := free_n x0.2.1 2
            have q0 := cell_n x0.2.1 0 (v := .int .i64 0) rfl
            have q1 := cell_n x0.2.1 1 (v := .int .i64 0) rfl
            have q2 := cell_n x0.2.1 2 (v := .slice none 0 0) rfl
            have q0 : w2.cell? ⟨B + 1, 0, none⟩ = some (.int .i64 0) := q0
            have q1 : w2.cell? ⟨B + 1, 1, none⟩ = some (.int .i64 0) := q1
            have q2 : w2.cell? ⟨B + 1, 2, none⟩ = some (.slice none 0 0) := q2
            have g0 : w2.frozen? ⟨B + 1, 0, none⟩ = false := g0
            have g1 : w2.frozen? ⟨B + 1, 1, none⟩ = false := g1
            have g2 : w2.frozen? ⟨B + 1, 2, none⟩ = false := g2
            have HE9 := Lib.hid (setAll_at (xs := [.int .i64 0, .int .i64 0, .slice none 0 0]) x0.2.1 [.int .i64 base, .int .i64 bt, .slice a2 (mm + (es.length - j)) c2'] rfl)
            have HB9 := Lib.hid (setAll_below x0.2.2 (Nat.le_succ B) [.int .i64 base, .int .i64 bt, .slice a2 (mm + (es.length - j)) c2'])
            have HO9 : Hid (OwnE (B + 2) (setAll w2.drew (B + 1) [.int .i64 base, .int .i64 bt, .slice a2 (mm + (es.length - j)) c2']) (.slice a2 (mm + (es.length - j)) c2') (lt ++ ed)) := own_up (World.ownsRow.drew Ho3.out) (Up.setAll _ w2.drew (by omega) _) (Nat.le_refl _)
            have x2 := setAll_other (b := B + 1) x0.1 (by omega) [.int .i64 base, .int .i64 bt, .slice a2 (mm + (es.length - j)) c2']
            have hset : (setAll w2.drew (B + 1) [.int .i64 base, .int .i64 bt, .slice a2 (mm + (es.length - j)) c2']).cell? ⟨B, 0, none⟩ = some (.int .i64 base) ∧ (setAll w2.drew (B + 1) [.int .i64 base, .int .i64 bt, .slice a2 (mm + (es.length - j)) c2']).cell? ⟨B, 1, none⟩ = some (.int .i64 bt) ∧ (setAll w2.drew (B + 1) [.int .i64 base, .int .i64 bt, .slice a2 (mm + (es.length - j)) c2']).cell? ⟨b, off + j * 4, none⟩ = some (.int .i64 (base + 1 + mm)) := ⟨cell_n x2 0 rfl, cell_n x2 1 rfl, by rw [setAll_cell _ (by show B + 1 ≠ b; have : b < B := hbB; omega)]; exact d0⟩
            have r1 : IntKind.i64.wrap (p + (es.length : Int)) = p + (es.length : Int) := IntWalk.i64_in _ (by omega)
            have r2 : IntKind.i64.wrap (p + (es.length : Int) - (k : Int)) = p + (es.length : Int) - (k : Int) := IntWalk.i64_in _ (by omega)
            clear x0 x2 hps hpl2
            go_upto_region 22 with fail
            go_region_held3 (fun w' => w'.cell? ⟨B, 0, none⟩ = some (.int .i64 base) ∧ w'.cell? ⟨B, 1, none⟩ = some (.int .i64 bt) ∧ w'.cell? ⟨b, off + j * 4, none⟩ = some (.int .i64 (base + 1 + mm)))
              (first | with_reducible exact ⟨c0, c1, d0⟩ | exact hset)
              (fail)
            clear c0 c1 d0 hset g0 g1 g2
            go_wp2_with fail
            change bodyPost _ _ _ Exit.ret _ (setAll w2.drew (B + 1) [.int .i64 base, .int .i64 bt, .slice a2 (mm + (es.length - j)) c2'])
            generalize setAll w2.drew (B + 1) [.int .i64 base, .int .i64 bt, .slice a2 (mm + (es.length - j)) c2'] = W9 at HE9 HB9 HO9 ⊢
            clear q0 q1 q2
            have q0 := cell_n HE9.out 0 (v := .int .i64 base) rfl
            have q1 := cell_n HE9.out 1 (v := .int .i64 bt) rfl
            have q2 := cell_n HE9.out 2 (v := .slice a2 (mm + (es.length - j)) c2') rfl
            refine bodyPost_ret (by simp [results, Try.results39, go_sem, q0, q1, q2]; rfl) rfl ?_
            rw [← HP.out]
            exact ⟨_, by rw [Hme.out], HO9.out.ents.weak (Plain.good _) (fun _ _ _ => trivial), by rw [hB.out]; exact HB9.out⟩
      · have e1 : (l, (0 : Int)) = O := by
          have : es.drop j = [] := List.drop_eq_nil_of_le (by omega)
          rw [← hput.out, this]; rfl
        subst e1
        have x0 := Hx.out _ hbr.out
        have c0 := cell_n x0.1 0 (v := .int .i64 base) rfl
        have c1 := cell_n x0.1 1 (v := .int .i64 bt) rfl
        have c2 := cell_n x0.1 2 (v := .slice ao l.length cap) rfl
        clear x0
        have y0 := Hx.out _ hbr.out
        have g0 := free_n y0.2.1 0
        have g1 := free_n y0.2.1 1
        have g2 := free_n y0.2.1 2
        have q0 := cell_n y0.2.1 0 (v := .int .i64 0) rfl
        have q1 := cell_n y0.2.1 1 (v := .int .i64 0) rfl
        have q2 := cell_n y0.2.1 2 (v := .slice none 0 0) rfl
        have HE9 := Lib.hid (setAll_at (xs := [.int .i64 0, .int .i64 0, .slice none 0 0]) y0.2.1 [.int .i64 base, .int .i64 bt, .slice ao l.length cap] rfl)
        have HB9 := Lib.hid (setAll_below y0.2.2 (Nat.le_succ B) [.int .i64 base, .int .i64 bt, .slice ao l.length cap])
        have HO9 : Hid (Ents (fun k => k < B) (setAll wr (B + 1) [.int .i64 base, .int .i64 bt, .slice ao l.length cap]) (.slice ao l.length cap) l) := (HFl.out _ hbr.out).frame (Plain.good _) ⟨by rw [setAll, setFrom_size]; exact Nat.le_refl _, fun k h1 _ => setFrom_other (by omega) _ _ 0⟩
        clear y0
        go_wp2_with fail
        change bodyPost _ _ _ Exit.ret _ (setAll wr (B + 1) [.int .i64 base, .int .i64 bt, .slice ao l.length cap])
        generalize setAll wr (B + 1) [.int .i64 base, .int .i64 bt, .slice ao l.length cap] = W9 at HE9 HB9 HO9 ⊢
        clear q0 q1 q2
        have q0 := cell_n HE9.out 0 (v := .int .i64 base) rfl
        have q1 := cell_n HE9.out 1 (v := .int .i64 bt) rfl
        have q2 := cell_n HE9.out 2 (v := .slice ao l.length cap) rfl
        refine bodyPost_ret (by simp [results, Try.results39, go_sem, q0, q1, q2]; rfl) rfl ?_
        rw [← HP.out]
        exact ⟨_, by rw [Hme.out], HO9.out.weak (Plain.good _) (fun _ _ _ => trivial), by rw [hB.out]; exact HB9.out⟩
end Go.Proofs.Ytlknkhmhdmpdkaa
