/-
  Entries put behind an index: rlog.Extend.
-/
import Derived.Test.YtlknkhmhdmpdkaaLd
import Derived.Deep.RegionHeld3
namespace Go.Proofs.Ytlknkhmhdmpdkaa
open Go.RowKit Wm Mm Lg
set_option linter.unusedVariables false
set_option linter.unusedSimpArgs false

theorem Sl.tail1 {F : Nat → Prop} {w : World} {b off c : Nat} {e : EntP} {r : List EntP} (h : Ents F w (.slice (some ⟨b, off, none⟩) (r.length + 1) c) (e :: r)) : Ents F w (.slice (some ⟨b, off + 4, none⟩) r.length (c - 1)) r := by
  have := Sl.drop (k := 1) h (by simp)
  simpa using this
theorem flat_take (l : List EntP) : ∀ m : Nat, (l.flatMap rowE).take (m * 4) = (l.take m).flatMap rowE := by
  induction l with
  | nil => intro m; simp
  | cons x l ih =>
    intro m
    cases m with
    | zero => simp
    | succ m =>
      have e : (m + 1) * 4 = (rowE x).length + m * 4 := by rw [rowE_len]; omega
      rw [List.take_succ_cons, List.flatMap_cons, List.flatMap_cons, e, List.take_length_add_append, ih]
/-- what lies there before an entry is appended -/
structure Pre (w Z : World) (B P : Nat) (base bt : Int) (av : Option Addr) (cv : Nat) (out : List EntP) (x : EntP) (rv : Value) (r : List EntP) : Prop where
  log : Z.heap[B + 1]? = some (.cells (oLog base bt (.slice av out.length cv)) 52 (0, 0))
  own : OwnE (B + 2) Z (.slice av out.length cv) out
  bel : Below B w Z
  ents : Ents (fun k => k < B) Z rv r
  ent : Z.heap[P]? = some (.cells (rowE x).toArray 56 (0, 0))
  far : ∀ g, (Value.slice av out.length cv).ownBlock = some g → g < P
  hP : B + 2 ≤ P
theorem Pre.log' {w Z : World} {B P : Nat} {base bt : Int} {av : Option Addr} {cv : Nat} {out : List EntP} {x : EntP} {rv : Value} {r : List EntP} (h : Pre w Z B P base bt av cv out x rv r) (Y : World) (hy : Below Z.heap.size Z Y) : Pre w Y B P base bt av cv out x rv r :=
  ⟨(hy.block _ (lt_of_block h.log)).trans h.log, own_below h.own hy, h.bel.trans (hy.mono (by have := lt_of_block h.log; omega)), h.ents.frame (Plain.good _) (Agree.below hy), (hy.block _ (lt_of_block h.ent)).trans h.ent, h.far, h.hP⟩
theorem Pre.cut {w Z : World} {B P m : Nat} {base bt : Int} {av : Option Addr} {cv : Nat} {out : List EntP} {x : EntP} {rv : Value} {r : List EntP} (h : Pre w Z B P base bt av cv out x rv r) (hm : m ≤ out.length) : Pre w (Z.setCell ⟨B + 1, 2, none⟩ (.slice av (out.take m).length cv)) B P base bt av cv (out.take m) x rv r := by
  have hl : (out.take m).length = m := by rw [List.length_take]; omega
  have ho := own_take h.own hm
  rw [flat_take] at ho
  have ho2 : OwnE (B + 2) Z (.slice av (out.take m).length cv) (out.take m) := by show World.ownsRow _ _ _ _ _ _ _; rw [hl]; exact ho
  refine ⟨by rw [heap_setCell, if_pos rfl, h.log]; simp [storeIn], own_up ho2 (Up.setCell (B + 2) Z (a := ⟨B + 1, 2, none⟩) (by simp) _) (Nat.le_refl _), h.bel.setCell (by simp) _, h.ents.frame (Plain.good _) (Agree.setCell _ (by simp) _), hp_set_other h.ent (by have := h.hP; simp; omega), fun g hg => h.far g ?_, h.hP⟩
  cases av with
  | none => simp [Value.ownBlock] at hg
  | some a => simpa [Value.ownBlock] using hg
theorem Pre.push {w Z Y : World} {B P : Nat} {base bt : Int} {av av2 : Option Addr} {cv cv2 : Nat} {out : List EntP} {x : EntP} {rv : Value} {r : List EntP} (h : Pre w Z B P base bt av cv out x rv r) (hg : Z.grownBy Y (Value.slice av out.length cv).ownBlock) (ho : Y.ownsRow (B + 2) 56 4 (.slice av2 (out.length + 1) cv2) (out.length + 1) (out.flatMap rowE ++ rowE x)) :
    Y.heap[B + 1]? = some (.cells (oLog base bt (.slice av out.length cv)) 52 (0, 0)) ∧ (Y.setCell ⟨B + 1, 2, none⟩ (.slice av2 (out ++ [x]).length cv2)).heap[B + 1]? = some (.cells (oLog base bt (.slice av2 (out ++ [x]).length cv2)) 52 (0, 0)) ∧
    OwnE (B + 2) (Y.setCell ⟨B + 1, 2, none⟩ (.slice av2 (out ++ [x]).length cv2)) (.slice av2 (out ++ [x]).length cv2) (out ++ [x]) ∧ Below B w (Y.setCell ⟨B + 1, 2, none⟩ (.slice av2 (out ++ [x]).length cv2)) ∧ Ents (fun k => k < B) (Y.setCell ⟨B + 1, 2, none⟩ (.slice av2 (out ++ [x]).length cv2)) rv r ∧
    (Y.setCell ⟨B + 1, 2, none⟩ (.slice av2 (out ++ [x]).length cv2)).heap[P]? = some (.cells (rowE x).toArray 56 (0, 0)) := by
  have hl := lt_of_block h.log
  have h1 := (hg.block _ hl (own_other h.own (by omega))).trans h.log
  have hP := h.hP
  have ho2 : OwnE (B + 2) Y (.slice av2 (out ++ [x]).length cv2) (out ++ [x]) := by
    show World.ownsRow _ _ _ _ _ _ _
    have e1 : (out ++ [x]).length = out.length + 1 := by simp
    have e2 : (out ++ [x]).flatMap rowE = out.flatMap rowE ++ rowE x := by simp
    rw [e1, e2]; exact ho
  refine ⟨h1, by rw [heap_setCell, if_pos rfl, h1]; simp [storeIn], own_up ho2 (Up.setCell (B + 2) Y (a := ⟨B + 1, 2, none⟩) (by simp) _) (Nat.le_refl _), (h.bel.trans (below_own h.own hg (by omega) (by omega))).setCell (by simp) _, ?_, ?_⟩
  · exact (h.ents.frame (Plain.good _) (Agree.grown hg (fun k h3 h4 => own_other h.own (by omega)))).frame (Plain.good _) (Agree.setCell _ (by simp) _)
  · refine hp_set_other ((hg.block _ (lt_of_block h.ent) (fun e => ?_)).trans h.ent) (by simp; omega)
    have := h.far P e.symm
    omega
theorem fits_le {base bt : Int} {out : List EntP} {e : EntP} (h : fits base bt out e = true) (h1 : base ≤ e.idx) : e.idx ≤ base + out.length := by
  by_cases h2 : base + out.length < e.idx
  · unfold fits at h
    rw [termAt_far h1 h2] at h
    simp at h
  · omega
/-- what the loop over the entries keeps -/
structure Run (base p : Int) (out : List EntP) (first : Int) (k n : Nat) : Prop where
  ok : Ok base out
  len : out.length + (n - k) ≤ 2199023255552
  lo : base ≤ p + k
  hi : p + k ≤ base + out.length
  new : first ≠ 0 → p + k = base + out.length
theorem Run.fit {base p bt : Int} {out : List EntP} {first : Int} {k n : Nat} {e : EntP} (h : Run base p out first k n) (hk : k < n) (he : e.idx = p + 1 + k) (hf : fits base bt out e = true) : Run base p out first (k + 1) n := by
  have h1 := fits_le hf (by have := h.lo; omega)
  have h2 := h.len
  have h3 := h.lo
  refine ⟨h.ok, by omega, by omega, by omega, fun hne => ?_⟩
  have := h.new hne
  omega
theorem Run.cut {base p bt : Int} {out : List EntP} {k n m : Nat} {e : EntP} (h : Run base p out 0 k n) (hk : k < n) (he : e.idx = p + 1 + k) (hm : p + k = base + m) : Run base p (out.take m ++ [e]) e.idx (k + 1) n := by
  have h2 := h.len
  have h3 := h.lo
  have h4 := h.hi
  have hl : (out.take m).length = m := by rw [List.length_take]; omega
  have hl2 : (out.take m ++ [e]).length = m + 1 := by simp; omega
  exact ⟨(h.ok.take m).push (by rw [hl]; omega) (by rw [hl]; omega), by rw [hl2]; omega, by omega, by rw [hl2]; omega, fun _ => by rw [hl2]; omega⟩
theorem Run.add {base p bt : Int} {out : List EntP} {first : Int} {k n : Nat} {e : EntP} (h : Run base p out first k n) (hk : k < n) (he : e.idx = p + 1 + k) (hne : first ≠ 0) : Run base p (out ++ [e]) first (k + 1) n := by
  have h2 := h.len
  have h3 := h.lo
  have h5 := h.new hne
  exact ⟨h.ok.push (by omega) (by omega), by simp; omega, by omega, by simp; omega, fun _ => by simp; omega⟩

set_option maxHeartbeats 4000000 in
set_option maxRecDepth 100000 in
theorem wire_extend (base bt prev term : Int) (ev ev2 : Value) (l es : List EntP) (F G : Nat → Prop) (w : World) (h : Ents F w ev l) (hk : Ok base l) (h2 : Ents G w ev2 es) (hbh : Behind prev es) (hp0 : 0 ≤ prev) (hp1 : prev ≤ 1099511627775) (hn : l.length + es.length ≤ 2199023255552) :
    Calls Try.prog 31 #[vLog base bt ev, .int .i64 prev, .int .i64 term, ev2] w fun e w' => ∃ v', e = .returned (.tuple #[vLog base bt v', .int .i64 (ext base bt l prev term es).mat, .int .i64 (ext base bt l prev term es).first, .int .i64 (ext base bt l prev term es).look]) ∧ OwnE w.heap.size w' v' (ext base bt l prev term es).es ∧ Below w.heap.size w w' := by
  obtain ⟨X, hX⟩ := hide (ext base bt l prev term es)
  rw [hX.out]
  obtain ⟨post, HP⟩ := hide (fun (e : Ending) (w' : World) => ∃ v', e = .returned (.tuple #[vLog base bt v', .int .i64 X.mat, .int .i64 X.first, .int .i64 X.look]) ∧ OwnE w.heap.size w' v' X.es ∧ Below w.heap.size w w')
  rw [HP.out]
  obtain ⟨ao, cap, rfl, hcap, hmax⟩ := h.slice
  obtain ⟨ao2, cap2, rfl, hcap2, hmax2⟩ := h2.slice
  obtain ⟨W, hW⟩ := hide ((w.alloc (.cells (oLog base bt (.slice ao l.length cap)) 52)).alloc (.cells (oLog 0 0 (.slice none 0 0)) 52))
  have hb0' : Below w.heap.size w W := by rw [← hW.out]; exact ((Below.refl _ _).alloc (Nat.le_refl _) _).alloc (by simp) _
  have hl2 := h.frame (Plain.good _) (Agree.below hb0')
  have he2 := (h2.weak (G := fun k => k < w.heap.size) (Plain.good _) (fun k _ h => h)).frame (Plain.good _) (Agree.below hb0')
  obtain ⟨B, hB⟩ := hide w.heap.size
  have hc : W.heap[B]? = some (.cells (oLog base bt (.slice ao l.length cap)) 52 (0, 0)) := by rw [← hW.out, ← hB.out]; exact (hp_past _ _ (by simp)).trans (hp_at _ _ rfl)
  have hd : W.heap[B + 1]? = some (.cells (oLog 0 0 (.slice none 0 0)) 52 (0, 0)) := by rw [← hW.out, ← hB.out]; exact hp_at _ _ (by simp)
  have hsz : W.heap.size = B + 2 := by rw [← hW.out, ← hB.out]; simp
  rw [hB.out] at hb0' he2
  have Hx : Hid (∀ w', Below W.heap.size W w' → w'.heap[B]? = some (.cells (oLog base bt (.slice ao l.length cap)) 52 (0, 0)) ∧ w'.heap[B + 1]? = some (.cells (oLog 0 0 (.slice none 0 0)) 52 (0, 0)) ∧ Below B w w') :=
    fun w' hh => ⟨(hh.block _ (lt_of_block hc)).trans hc, (hh.block _ (lt_of_block hd)).trans hd, hb0'.trans (hh.mono (by omega))⟩
  have HFl : Hid (∀ w', Below W.heap.size W w' → Ents F w' (.slice ao l.length cap) l) := fun w' hb => hl2.frame (Plain.good _) (Agree.below hb)
  have HC : Hid (∀ w', Below W.heap.size W w' → Calls Try.prog 112 #[vLog base bt (.slice ao l.length cap)] w' fun e w'' => ∃ v', e = .returned (vLog base bt v') ∧ OwnE w'.heap.size w'' v' l ∧ Below w'.heap.size w' w'') := fun w' hb => clone_log base bt _ l F w' (HFl.out w' hb) (by have := hk.n; omega)
  have HT : Hid (∀ w' i, Below W.heap.size W w' → 0 ≤ i → i ≤ 4398046511104 → Calls Try.prog 46 #[vLog base bt (.slice ao l.length cap), .int .i64 i] w' fun e w'' => e = .returned (.tuple #[.int .i64 (termAt base bt l i).1, .int .i64 (termAt base bt l i).2]) ∧ Below w'.heap.size w' w'') := fun w' i hb h1 h2 => wire_termAt base bt i _ l F w' (HFl.out w' hb) hk (by omega) h2
  have HH : Hid (∀ w' i, Below W.heap.size W w' → base ≤ i → i ≤ 4398046511104 → Calls Try.prog 113 #[vLog base bt (.slice ao l.length cap), .int .i64 i] w' fun e w'' => e = .returned (.int .i64 (hintOf base bt l i)) ∧ Below w'.heap.size w' w'') := fun w' i hb h1 h2 => wire_hint base bt i _ l F w' (HFl.out w' hb) hk h1 h2
  have Hk := Lib.hid hk
  have Hsz := Lib.hid hsz
  have hsk := skip_behind base es prev term hbh
  have hXd : (let s := skip base prev term es; if s.1 < base then (⟨l, s.1, 0, 0⟩ : Ext) else if termAt base bt l s.1 = (s.2.1, 0) then ⟨(put base bt l 0 s.2.2).1, lastI s.1 s.2.2, (put base bt l 0 s.2.2).2, 0⟩ else ⟨l, 0, 0, hintOf base bt l s.1⟩) = X := hX.out
  obtain ⟨sk, hskd⟩ := hide (skip base prev term es)
  rw [hskd.out] at hsk
  simp only [hskd.out] at hXd
  have Hsk := Lib.hid hsk
  have HXd := Lib.hid hXd
  have hb1 := hk.b0
  have hb2 := hk.b1
  have He2 := Lib.hid he2
  have Hn := Lib.hid hn
  have Hp1 := Lib.hid hp1
  clear h hk h2 hc hd hb0' hsz hl2 he2 hsk hXd hbh hn hp1 hp0 hmax hcap hmax2 hcap2
  go_enter Try.func31, Try.ntmps31
  go_upto_block 0 with fail
  rw [hW.out, hB.out]
  go_cut [1, 2, 3] (fun p t v wx => ∃ av cv, p = .int .i64 sk.1 ∧ t = .int .i64 sk.2.1 ∧ v = .slice av sk.2.2.length cv ∧ Hid (Below W.heap.size W wx) ∧ Hid (Ents (fun k => k < B) wx (.slice av sk.2.2.length cv) sk.2.2))
  case first =>
    go_wp2_with fail
    go_loopw [1, 2, 3] (fun p t v wr => ∃ (p' t' : Int) (r : List EntP) (av : Option Addr) (cv : Nat), p = .int .i64 p' ∧ t = .int .i64 t' ∧ v = .slice av r.length cv ∧ Hid (Below W.heap.size W wr) ∧ Hid (Ents (fun k => k < B) wr (.slice av r.length cv) r) ∧ Hid (skip base p' t' r = sk)) (fun _ _ v _ => match v with | .slice _ n _ => n | _ => 0)
    case atStart => exact ⟨prev, term, es, ao2, cap2, rfl, rfl, rfl, Below.refl _ _, He2, hskd⟩
    case round =>
      obtain ⟨p', t', r, av, cv, rfl, rfl, rfl, hb, hr, hs⟩ := hrel
      have x0 := (Hx.out _ hb.out).1
      have c0 := cell_n x0 0 (v := .int .i64 base) rfl
      clear x0
      cases r with
      | nil =>
        have e1 : (p', t', []) = sk := hs.out
        subst e1
        rw [show ([] : List EntP).length = 0 from rfl]
        go_wp2_with fail
        go_meet
        exact ⟨av, cv, rfl, rfl, rfl, hb, hr⟩
      | cons e r =>
        rw [show (e :: r).length = r.length + 1 from rfl] at hr ⊢
        by_cases hlt : p' < base
        · have hs2 : skip base e.idx e.trm r = sk := by rw [← hs.out, skip, if_pos hlt]
          obtain ⟨b, off, us, hav, _, _, hus, hcs⟩ := hr.out.at (k := 0) (by simp)
          subst hav
          have e1 : us = rowE e := hus
          subst e1
          have d0 := hcs 0 _ rfl
          have d1 := hcs 1 _ rfl
          rw [Nat.zero_mul, Nat.add_zero] at d0 d1
          have Hs2 := Lib.hid hs2
          have hmr : r.length + 1 ≤ 9223372036854775807 := by
            obtain ⟨_, _, he, _, hm⟩ := hr.out.slice
            simpa using hm
          have hcv : r.length + 1 ≤ cv := by
            obtain ⟨_, _, he, hm, _⟩ := hr.out.slice
            injection he with _ _ e3
            rw [e3]; simpa using hm
          have Hr := Lib.hid (Sl.tail1 hr.out)
          clear hs2 hcs hus
          by_cases hc1 : cv = 1
          · subst hc1
            have hr0 : r = [] := List.eq_nil_of_length_eq_zero (by omega)
            subst hr0
            simp only [List.length_nil, Nat.zero_add] at *
            go_wp2_with (go_quiet (fail))
            go_roundw
            case rel => exact ⟨_, _, [], _, _, rfl, rfl, rfl, below_drew' hb.out _, ⟨_, _, rfl, ⟨by simp, fun h => by cases h⟩, by simp, fun h => absurd rfl h⟩, Hs2⟩
            case measure => simp
          · go_wp2_with (go_quiet (fail))
            go_roundw
            case rel => exact ⟨_, _, r, _, _, rfl, rfl, rfl, below_drew' hb.out _, Hr.out.frame (Plain.good _) (Agree.drewN _ _ _), Hs2⟩
            case measure => simp
        · have e1 : (p', t', e :: r) = sk := by rw [← hs.out, skip, if_neg hlt]
          subst e1
          go_wp2_with fail
          go_meet
          exact ⟨av, cv, rfl, rfl, rfl, hb, hr⟩
  case rest =>
  obtain ⟨av, cv, rfl, rfl, rfl, hb, hr⟩ := hcut
  obtain ⟨p, t, r⟩ := sk
  simp only [] at Hsk HXd hr ⊢
  obtain ⟨hbh, hp2, hp3, hp4⟩ := Hsk.out
  have Hbh := Lib.hid hbh
  have hpm : p ≤ 3298534883327 := by have := Hn.out; have := Hp1.out; omega
  have Hrl : Hid (l.length + r.length ≤ 2199023255552) := by have := Hn.out; show _ ≤ _; omega
  clear hbh hp2 hp3 hp4
  have x0 := Hx.out _ hb.out
  have c0 := cell_n x0.1 0 (v := .int .i64 base) rfl
  have c1 := cell_n x0.1 1 (v := .int .i64 bt) rfl
  have c2 := cell_n x0.1 2 (v := .slice ao l.length cap) rfl
  clear x0
  by_cases a1 : p < base
  · obtain rfl : (⟨l, p, 0, 0⟩ : Ext) = X := by rw [← HXd.out, if_pos a1]
    go_wp2_with fail
    refine (HC.out _ hb.out).mono ?_
    rintro e w5 ⟨v', rfl, ho, hbb⟩
    obtain ⟨ao', cap', rfl⟩ := owns_slice ho
    have hb5 := hb.out.trans (hbb.mono hb.out.size)
    have Ho : Hid (OwnE (B + 2) w5 (.slice ao' l.length cap') l) := own_base ho (by rw [← Hsz.out]; exact hb.out.size)
    have y0 := Hx.out _ hb5
    have g0 := free_n y0.2.1 0
    have g1 := free_n y0.2.1 1
    have g2 := free_n y0.2.1 2
    have q0 := cell_n y0.2.1 0 (v := .int .i64 0) rfl
    have q1 := cell_n y0.2.1 1 (v := .int .i64 0) rfl
    have q2 := cell_n y0.2.1 2 (v := .slice none 0 0) rfl
    have HE := Lib.hid (setAll_at (xs := [.int .i64 0, .int .i64 0, .slice none 0 0]) y0.2.1 [.int .i64 base, .int .i64 bt, .slice ao' l.length cap'] rfl)
    have HB := Lib.hid (setAll_below y0.2.2 (Nat.le_succ B) [.int .i64 base, .int .i64 bt, .slice ao' l.length cap'])
    have HO : Hid (OwnE (B + 2) (setAll w5 (B + 1) [.int .i64 base, .int .i64 bt, .slice ao' l.length cap']) (.slice ao' l.length cap') l) := own_up Ho.out (Up.setAll _ w5 (by omega) _) (Nat.le_refl _)
    clear y0
    clear c0 c1 c2 ho hbb hb5
    go_wp2_with fail
    change bodyPost _ _ _ Exit.ret _ (setAll w5 (B + 1) [.int .i64 base, .int .i64 bt, .slice ao' l.length cap'])
    generalize setAll w5 (B + 1) [.int .i64 base, .int .i64 bt, .slice ao' l.length cap'] = W5 at HE HB HO ⊢
    clear q0 q1 q2
    have q0 := cell_n HE.out 0 (v := .int .i64 base) rfl
    have q1 := cell_n HE.out 1 (v := .int .i64 bt) rfl
    have q2 := cell_n HE.out 2 (v := .slice ao' l.length cap') rfl
    refine bodyPost_ret (by simp [results, Try.results31, go_sem, q0, q1, q2]; rfl) rfl ?_
    rw [← HP.out]
    exact ⟨_, rfl, own_base HO.out (by rw [hB.out]; omega), by rw [hB.out]; exact HB.out⟩
  have hX2 : (if termAt base bt l p = (t, 0) then (⟨(put base bt l 0 r).1, lastI p r, (put base bt l 0 r).2, 0⟩ : Ext) else ⟨l, 0, 0, hintOf base bt l p⟩) = X := by rw [← HXd.out, if_neg a1]
  have HX2 := Lib.hid hX2
  clear hX2
  obtain ⟨u, hu⟩ := hide (termAt base bt l p)
  have HT1 := Lib.hid (HT.out _ p hb.out (by omega) (by omega))
  rw [hu.out] at HX2 HT1
  go_wp2_with fail
  refine HT1.out.mono ?_
  rintro e w6 ⟨rfl, hbb⟩
  have Hb6 := Lib.hid (hb.out.trans (hbb.mono hb.out.size))
  have Hr6 := Lib.hid (hr.out.frame (Plain.good _) (Agree.below hbb))
  clear hbb c0 c1 c2
  have x0 := Hx.out _ Hb6.out
  have c0 := cell_n x0.1 0 (v := .int .i64 base) rfl
  have c1 := cell_n x0.1 1 (v := .int .i64 bt) rfl
  have c2 := cell_n x0.1 2 (v := .slice ao l.length cap) rfl
  clear x0
  by_cases a2 : u = (t, 0)
  case neg =>
    obtain rfl : (⟨l, 0, 0, hintOf base bt l p⟩ : Ext) = X := by rw [← HX2.out, if_neg a2]
    have H0 : Hid (Below W.heap.size W w6.drew) := Hb6.out.drew
    have HHp : Hid (∀ w', Below W.heap.size W w' → Calls Try.prog 113 #[vLog base bt (.slice ao l.length cap), .int .i64 p] w' fun e w'' => e = .returned (.int .i64 (hintOf base bt l p)) ∧ Below w'.heap.size w' w'') := fun w' hh => HH.out w' p hh (by omega) (by omega)
    have hbranch : ((u.2 == 0) = false) ∨ ((u.2 == 0) = true ∧ (u.1 == t) = false) := by
      by_cases h0 : u.2 = 0
      · refine Or.inr ⟨beq_iff_eq.2 h0, beq_eq_false_iff_ne.2 (fun h1 => a2 ?_)⟩
        obtain ⟨u1, u2⟩ := u
        simp at h0 h1; rw [h0, h1]
      · exact Or.inl (beq_eq_false_iff_ne.2 h0)
    obtain ⟨u1, u2⟩ := u
    simp only [] at hbranch HT1
    have A2 := Lib.hid a2
    clear a2
    rcases hbranch with t1 | ⟨t1, t2⟩
    all_goals
      have t3 : ((u2 != 0) = !(u2 == 0)) := rfl
      rw [t1] at t3
      have t4 : ((u1 != t) = !(u1 == t)) := rfl
      try rw [t2] at t4
      go_upto_region 8 with fail
      have c0 : w6.drew.cell? ⟨B, 0, none⟩ = some (.int .i64 base) := c0
      have c1 : w6.drew.cell? ⟨B, 1, none⟩ = some (.int .i64 bt) := c1
      have c2 : w6.drew.cell? ⟨B, 2, none⟩ = some (.slice ao l.length cap) := c2
      go_region_held3 (fun w' => w'.cell? ⟨B, 0, none⟩ = some (.int .i64 base) ∧ w'.cell? ⟨B, 1, none⟩ = some (.int .i64 bt) ∧ w'.cell? ⟨B, 2, none⟩ = some (.slice ao l.length cap))
        (first | with_reducible exact ⟨c0, c1, c2⟩ | exact hset)
        (first
        | (go_at_call 112; (with_reducible refine (HC.out _ H0.out).mono ?_); rintro e V1 ⟨v', rfl, ho, hbb⟩; obtain ⟨ao', cap', rfl⟩ := owns_slice ho; have H1 := Lib.hid (H0.out.trans (hbb.mono H0.out.size)); have Ho1 : Hid (OwnE (B + 2) V1 (.slice ao' l.length cap') l) := own_base ho (by rw [← Hsz.out]; exact H0.out.size); have x1 := (Hx.out _ H1.out).1; have c0 : V1.cell? ⟨B, 0, none⟩ = some (.int .i64 base) := cell_n x1 0 rfl; have c1 : V1.cell? ⟨B, 1, none⟩ = some (.int .i64 bt) := cell_n x1 1 rfl; have c2 : V1.cell? ⟨B, 2, none⟩ = some (.slice ao l.length cap) := cell_n x1 2 rfl; clear hbb ho x1)
        | (go_at_call 113; (with_reducible refine (HHp.out _ H1.out).mono ?_); rintro e V2 ⟨rfl, hbb⟩; have H2 := Lib.hid (H1.out.trans (hbb.mono H1.out.size)); have Ho : Hid (OwnE (B + 2) V2 (.slice ao' l.length cap') l) := own_up Ho1.out (Up.ofBelow hbb) (Nat.le_refl _); have x1 := (Hx.out _ H2.out).1; have c0 : V2.cell? ⟨B, 0, none⟩ = some (.int .i64 base) := cell_n x1 0 rfl; have c1 : V2.cell? ⟨B, 1, none⟩ = some (.int .i64 bt) := cell_n x1 1 rfl; have c2 : V2.cell? ⟨B, 2, none⟩ = some (.slice ao l.length cap) := cell_n x1 2 rfl; have x2 := setAll_other (b := B + 1) x1 (by omega) [.int .i64 base, .int .i64 bt, .slice ao' l.length cap']; have hset : (setAll V2 (B + 1) [.int .i64 base, .int .i64 bt, .slice ao' l.length cap']).cell? ⟨B, 0, none⟩ = some (.int .i64 base) ∧ (setAll V2 (B + 1) [.int .i64 base, .int .i64 bt, .slice ao' l.length cap']).cell? ⟨B, 1, none⟩ = some (.int .i64 bt) ∧ (setAll V2 (B + 1) [.int .i64 base, .int .i64 bt, .slice ao' l.length cap']).cell? ⟨B, 2, none⟩ = some (.slice ao l.length cap) := ⟨cell_n x2 0 rfl, cell_n x2 1 rfl, cell_n x2 2 rfl⟩; have y1 := (Hx.out _ H2.out).2.1; have q0 : V2.cell? ⟨B + 1, 0, none⟩ = some (.int .i64 0) := cell_n y1 0 rfl; have q1 : V2.cell? ⟨B + 1, 1, none⟩ = some (.int .i64 0) := cell_n y1 1 rfl; have q2 : V2.cell? ⟨B + 1, 2, none⟩ = some (.slice none 0 0) := cell_n y1 2 rfl; have g0 := free_n y1 0; have g1 := free_n y1 1; have g2 := free_n y1 2; clear x2 y1 hbb x1))
      clear q0 q1 q2 g0 g1 g2
      have y0 := Hx.out _ H2.out
      have HE := Lib.hid (setAll_at (xs := [.int .i64 0, .int .i64 0, .slice none 0 0]) y0.2.1 [.int .i64 base, .int .i64 bt, .slice ao' l.length cap'] rfl)
      have HB := Lib.hid (setAll_below y0.2.2 (Nat.le_succ B) [.int .i64 base, .int .i64 bt, .slice ao' l.length cap'])
      have HO : Hid (OwnE (B + 2) (setAll V2 (B + 1) [.int .i64 base, .int .i64 bt, .slice ao' l.length cap']) (.slice ao' l.length cap') l) := own_up Ho.out (Up.setAll _ V2 (by omega) _) (Nat.le_refl _)
      clear y0 c0 c1 c2 hset
      go_wp2_with fail
      change bodyPost _ _ _ Exit.ret _ (setAll V2 (B + 1) [.int .i64 base, .int .i64 bt, .slice ao' l.length cap'])
      generalize setAll V2 (B + 1) [.int .i64 base, .int .i64 bt, .slice ao' l.length cap'] = W5 at HE HB HO ⊢
      have q0 := cell_n HE.out 0 (v := .int .i64 base) rfl
      have q1 := cell_n HE.out 1 (v := .int .i64 bt) rfl
      have q2 := cell_n HE.out 2 (v := .slice ao' l.length cap') rfl
      refine bodyPost_ret (by simp [results, Try.results31, go_sem, q0, q1, q2]; rfl) rfl ?_
      rw [← HP.out]
      exact ⟨_, rfl, own_base HO.out (by rw [hB.out]; omega), by rw [hB.out]; exact HB.out⟩
  case pos =>
    obtain rfl : (⟨(put base bt l 0 r).1, lastI p r, (put base bt l 0 r).2, 0⟩ : Ext) = X := by rw [← HX2.out, if_pos a2]
    subst a2
    have hple : p ≤ base + l.length := by
      by_cases h : base + l.length < p
      · have := hu.out; rw [termAt_far (by omega) h] at this; cases this
      · omega
    have HO0 : Hid ((put base bt l 0 r).1 = (put base bt l 0 r).1) := rfl
    obtain ⟨O, hO⟩ := hide (put base bt l 0 r)
    rw [hO.out] at HX2
    have hrun : Run base p l 0 0 r.length := ⟨Hk.out, by have := Hrl.out; omega, by omega, by simpa using hple, fun h => absurd rfl h⟩
    have Hrun := Lib.hid hrun
    have hlast := Hbh.out.last
    have Hlast := Lib.hid hlast
    clear hrun hlast hple
    go_wp2_with fail
    refine (HC.out _ Hb6.out).mono ?_
    rintro e w9 ⟨v', rfl, ho, hbb⟩
    obtain ⟨ao', cap', rfl⟩ := owns_slice ho
    have hb9 := Hb6.out.trans (hbb.mono Hb6.out.size)
    have Ho : Hid (OwnE (B + 2) w9 (.slice ao' l.length cap') l) := own_base ho (by rw [← Hsz.out]; exact Hb6.out.size)
    have Hr9 := Lib.hid (Hr6.out.frame (Plain.good _) (Agree.below hbb))
    have y0 := Hx.out _ hb9
    have g0 := free_n y0.2.1 0
    have g1 := free_n y0.2.1 1
    have g2 := free_n y0.2.1 2
    have q0 := cell_n y0.2.1 0 (v := .int .i64 0) rfl
    have q1 := cell_n y0.2.1 1 (v := .int .i64 0) rfl
    have q2 := cell_n y0.2.1 2 (v := .slice none 0 0) rfl
    have HE := Lib.hid (setAll_at (xs := [.int .i64 0, .int .i64 0, .slice none 0 0]) y0.2.1 [.int .i64 base, .int .i64 bt, .slice ao' l.length cap'] rfl)
    have HB := Lib.hid (setAll_below y0.2.2 (Nat.le_succ B) [.int .i64 base, .int .i64 bt, .slice ao' l.length cap'])
    have HO : Hid (OwnE (B + 2) (setAll w9 (B + 1) [.int .i64 base, .int .i64 bt, .slice ao' l.length cap']) (.slice ao' l.length cap') l) := own_up Ho.out (Up.setAll _ w9 (by omega) _) (Nat.le_refl _)
    clear y0
    have HR : Hid (Ents (fun k => k < B) (setAll w9 (B + 1) [.int .i64 base, .int .i64 bt, .slice ao' l.length cap']) (.slice av r.length cv) r) := Hr9.out.frame (Plain.good _) ⟨by rw [setAll, setFrom_size]; exact Nat.le_refl _, fun k h1 _ => setFrom_other (by omega) _ w9 0⟩
    clear c0 c1 c2 ho hbb hb9
    go_upto_region 10 with fail
    change Code.wp _ _ _ _ (setAll w9 (B + 1) [.int .i64 base, .int .i64 bt, .slice ao' l.length cap'])
    generalize setAll w9 (B + 1) [.int .i64 base, .int .i64 bt, .slice ao' l.length cap'] = W5 at HE HB HO HR ⊢
    clear q0 q1 q2 g0 g1 g2
    go_upto_block 2 with fail
    go_cut [9, 10] (fun mt fs wx => ∃ (av' : Option Addr) (cv' : Nat), mt = .int .i64 (p + r.length) ∧ fs = .int .i64 O.2 ∧ Hid (OwnE (B + 2) wx (.slice av' O.1.length cv') O.1) ∧ Hid (wx.heap[B + 1]? = some (.cells (oLog base bt (.slice av' O.1.length cv')) 52 (0, 0))) ∧ Hid (Below B w wx))
    case first =>
      go_wp2_with fail
      go_loopw [9, 10, 67] (fun mt fs i wr => ∃ (k : Nat) (out : List EntP) (first : Int) (av' : Option Addr) (cv' : Nat), i = .int .i64 k ∧ mt = .int .i64 (p + k) ∧ fs = .int .i64 first ∧ k ≤ r.length ∧ Hid (Run base p out first k r.length) ∧ Hid (put base bt out first (r.drop k) = O) ∧ Hid (OwnE (B + 2) wr (.slice av' out.length cv') out) ∧ Hid (wr.heap[B + 1]? = some (.cells (oLog base bt (.slice av' out.length cv')) 52 (0, 0))) ∧ Hid (Below B w wr) ∧ Hid (Ents (fun k => k < B) wr (.slice av r.length cv) r)) (fun _ _ i _ => r.length - (intOf i).toNat)
      case atStart => exact ⟨0, l, 0, ao', cap', rfl, by simp, rfl, Nat.zero_le _, Hrun, hO, HO, HE, HB, HR⟩
      case round =>
        obtain ⟨k, out, first, av', cv', rfl, rfl, rfl, hk, hrun, hput, hown, hlog, hbel, hrs⟩ := hrel
        by_cases hlt : k < r.length
        · have hmr : r.length ≤ 9223372036854775807 := by have := Hrl.out; omega
          obtain ⟨mm, hmm⟩ : ∃ mm : Nat, p + k = base + mm := ⟨(p + k - base).toNat, by have := hrun.out.lo; omega⟩
          obtain ⟨b, off, us, rfl, _, _, hus, hcs⟩ := hrs.out.at hlt
          have hi : r[k].idx = base + 1 + mm := by rw [Hbh.out k hlt]; omega
          have hput2 : put base bt out first (r[k] :: r.drop (k + 1)) = O := by rw [← hput.out, List.drop_eq_getElem_cons hlt]
          obtain ⟨x, hx⟩ := hide r[k]
          rw [hx.out] at hus hi hput2
          have e1 : us = rowE x := hus
          subst e1
          have d0 := hcs 0 _ rfl
          have d1 := hcs 1 _ rfl
          have d2 := hcs 2 _ rfl
          have d3 := hcs 3 _ rfl
          rw [Nat.add_zero] at d0
          rw [hi] at d0
          have hpre : Pre w (wr.alloc (.cells #[.int .i64 (base + 1 + mm), .int .i64 x.trm, .int .i64 x.knd, str x.dat] 56)) B wr.heap.size base bt av' cv' out x (.slice (some ⟨b, off, none⟩) r.length cv) r := by
            have hBw := lt_of_block hlog.out
            refine ⟨(hp_past _ _ (by omega)).trans hlog.out, hown.out.alloc _, hbel.out.alloc (by omega) _, hrs.out.frame (Plain.good _) (Agree.alloc _ _ _), by rw [hp_at _ _ rfl, ← hi], fun g hg => (hown.out.lt g hg).2, by omega⟩
          obtain ⟨P, hP⟩ := hide wr.heap.size
          obtain ⟨V1, hV1⟩ := hide (wr.alloc (.cells #[.int .i64 (base + 1 + mm), .int .i64 x.trm, .int .i64 x.knd, str x.dat] 56))
          rw [hP.out, hV1.out] at hpre
          have hmmO : mm ≤ 2199023255552 := by have := hrun.out.hi; have := hrun.out.ok.n; omega
          have HT14 := Lib.hid (wire_termAt base bt (base + 1 + mm) _ out _ V1 hpre.own.ents hrun.out.ok (by omega) (by omega))
          obtain ⟨u, hu⟩ := hide (termAt base bt out (base + 1 + mm))
          rw [hu.out] at HT14
          have hfit : fits base bt out x = decide (u = (x.trm, 0)) := by unfold fits; rw [hi, hu.out]
          have Hfit := Lib.hid hfit
          have Hput2 := Lib.hid hput2
          have Hi := Lib.hid hi
          have Hmm := Lib.hid hmm
          have Hpre := Lib.hid hpre
          have HmmO := Lib.hid hmmO
          clear hpre hi hput2 hcs hus hfit hmm hmmO
          go_upto_region 14 with fail
          rw [hV1.out, hP.out]
          clear d0 d1 d2 d3
          have c0 := cell_n Hpre.out.log 0 (v := .int .i64 base) rfl
          have c1 := cell_n Hpre.out.log 1 (v := .int .i64 bt) rfl
          have c2 := cell_n Hpre.out.log 2 (v := .slice av' out.length cv') rfl
          have hent := Hpre.out.ent
          rw [show (rowE x).toArray = #[.int .i64 x.idx, .int .i64 x.trm, .int .i64 x.knd, str x.dat] from rfl, Hi.out] at hent
          have d0 := cell_n hent 0 (v := .int .i64 (base + 1 + mm)) rfl
          clear hent
          go_wp2_with fail
          refine HT14.out.mono ?_
          rintro e V2 ⟨rfl, hbb⟩
          have Hpre2 := Lib.hid (Hpre.out.log' V2 hbb)
          clear hbb c0 c1 c2 d0
          have hent := Hpre2.out.ent
          rw [show (rowE x).toArray = #[.int .i64 x.idx, .int .i64 x.trm, .int .i64 x.knd, str x.dat] from rfl, Hi.out] at hent
          have d0 := cell_n hent 0 (v := .int .i64 (base + 1 + mm)) rfl
          have d1 := cell_n hent 1 (v := .int .i64 x.trm) rfl
          have d2 := cell_n hent 2 (v := .int .i64 x.knd) rfl
          have d3 := cell_n hent 3 (v := str x.dat) rfl
          clear hent
          obtain ⟨u1, u2⟩ := u
          by_cases hf : fits base bt out x = true
          · have hu2 : u1 = x.trm ∧ u2 = 0 := by have := hf; rw [Hfit.out] at this; simpa using this
            obtain ⟨rfl, rfl⟩ := hu2
            have Hrun2 := Lib.hid (hrun.out.fit hlt (by rw [Hi.out]; have := Hmm.out; omega) hf)
            have Hput3 : Hid (put base bt out first (r.drop (k + 1)) = O) := by show _ = _; rw [← Hput2.out, put, if_pos hf]
            clear hf
            go_wp2_with fail
            go_roundw
            case rel => exact ⟨k + 1, out, first, av', cv', by go_num, by rw [show p + ((k + 1 : Nat) : Int) = base + 1 + mm from by have := Hmm.out; omega], rfl, hlt, Hrun2, Hput3, Lib.hid Hpre2.out.own, Lib.hid Hpre2.out.log, Lib.hid Hpre2.out.bel, Lib.hid Hpre2.out.ents⟩
            case measure => simp [intOf]; omega
          · have hbr : ((u2 == 0) = false) ∨ ((u2 == 0) = true ∧ (u1 == x.trm) = false) := by
              by_cases h0 : u2 = 0
              · refine Or.inr ⟨beq_iff_eq.2 h0, beq_eq_false_iff_ne.2 (fun h1 => hf ?_)⟩
                rw [Hfit.out, h0, h1]; simp
              · exact Or.inl (beq_eq_false_iff_ne.2 h0)
            have Hf := Lib.hid hf
            clear hf
            by_cases hz : first = 0
            · subst hz
              have hmle : mm ≤ out.length := by have := hrun.out.hi; have := Hmm.out; omega
              have Hrun2 := Lib.hid (hrun.out.cut (bt := bt) hlt (by rw [Hi.out]; have := Hmm.out; omega) Hmm.out)
              have Hput3 : Hid (put base bt (out.take mm ++ [x]) x.idx (r.drop (k + 1)) = O) := by
                show _ = _
                rw [← Hput2.out, put, if_neg Hf.out, if_pos rfl, Hi.out, show (base + 1 + (mm : Int) - base - 1).toNat = mm from by omega]
              have Hpre3 := Lib.hid (Hpre2.out.cut hmle)
              have hol : (out.take mm).length = mm := by rw [List.length_take]; omega
              rw [hol] at Hpre3
              have hcv : out.length ≤ cv' := by
                rcases Hpre2.out.own.2 with ⟨hv, h0⟩ | ⟨g, cap, cur, hv, hb, hg, hn, hc, hs, ht⟩
                · omega
                · injection hv with e1 e2 e3; omega
              have Hlen : Hid (mm + 1 ≤ 2199023255560) := by have := HmmO.out; show _ ≤ _; omega
              have hcm : (mm : Int) ≤ (cv' : Int) := by omega
              obtain ⟨Z, hZ⟩ := hide (V2.setCell ⟨B + 1, 2, none⟩ (.slice av' mm cv'))
              rw [hZ.out] at Hpre3
              have k0 := cell_n Hpre2.out.log 0 (v := .int .i64 base) rfl
              have k2 := cell_n Hpre2.out.log 2 (v := .slice av' out.length cv') rfl
              have g2 := free_n Hpre2.out.log 2
              have q1 : base + 1 + (mm : Int) - base = 1 + (mm : Int) := by omega
              obtain ⟨out1, hout1⟩ := hide (out.take mm)
              rw [hout1.out] at Hpre3 Hrun2 Hput3 hol
              have Hol := Lib.hid hol
              have hcm2 : mm ≤ cv' := by omega
              have hmo := HmmO.out
              clear hol hmle hcv
              rcases hbr with t1 | ⟨t1, t2⟩
              all_goals
                have t3 : ((u2 != 0) = !(u2 == 0)) := rfl
                rw [t1] at t3
                have t4 : ((u1 != x.trm) = !(u1 == x.trm)) := rfl
                try rw [t2] at t4
                go_upto_region 19 with fail
                rw [hZ.out]
                clear d0 d1 d2 d3 k0 k2 g2 q1
                have hn1 : out1.length = mm := Hol.out
                subst hn1
                have k0 := cell_n Hpre3.out.log 0 (v := .int .i64 base) rfl
                have k2 := cell_n Hpre3.out.log 2 (v := .slice av' out1.length cv') rfl
                have hent := Hpre3.out.ent
                rw [show (rowE x).toArray = #[.int .i64 x.idx, .int .i64 x.trm, .int .i64 x.knd, str x.dat] from rfl, Hi.out] at hent
                have d0 := cell_n hent 0 (v := .int .i64 (base + 1 + (out1.length : Nat))) rfl
                have d1 := cell_n hent 1 (v := .int .i64 x.trm) rfl
                have d2 := cell_n hent 2 (v := .int .i64 x.knd) rfl
                have d3 := cell_n hent 3 (v := str x.dat) rfl
                have Ho1 := Lib.hid Hpre3.out.own
                have hBs : B + 2 ≤ Z.heap.size := lt_of_block Hpre3.out.log
                clear hent
                go_wp2_with (at_builtin; refine wpList_push rfl _ _ 50 rfl (B + 2) 56 _ 4 40 Try.underlying50 info_ent rfl (by decide) _ _ _ rfl Ho1.out _ rfl rfl (by intro u hu; simp at hu; rcases hu with hu | hu | hu | hu <;> (subst hu; rfl)) (by have := Hlen.out; unfold maxLen; omega) (by have := Hlen.out; omega) hBs ?_)
                intro v9 w8 ho8 hg8
                obtain ⟨a8, c8, rfl⟩ := owns_slice ho8
                have hrx : rowE x = [Value.int .i64 (base + 1 + (out1.length : Nat)), .int .i64 x.trm, .int .i64 x.knd, str x.dat] := by rw [← Hi.out]
                have hps := Hpre3.out.push hg8 (by rw [hrx]; exact ho8)
                have m2 := cell_n hps.1 2 (v := .slice av' out1.length cv') rfl
                have g2 := free_n hps.1 2
                rw [show (out1 ++ [x]).length = out1.length + 1 from by simp] at hps
                have Hps := Lib.hid hps.2
                clear hrx hps ho8 hg8 d0 d1 d2 d3 k0 k2
                obtain ⟨W9, hW9⟩ := hide (w8.setCell ⟨B + 1, 2, none⟩ (.slice a8 (out1.length + 1) c8))
                rw [hW9.out] at Hps
                go_upto_region 20 with fail
                rw [hW9.out]
                clear m2 g2
                have hent := Hps.out.2.2.2.2
                rw [show (rowE x).toArray = #[.int .i64 x.idx, .int .i64 x.trm, .int .i64 x.knd, str x.dat] from rfl, Hi.out] at hent
                have d0 := cell_n hent 0 (v := .int .i64 (base + 1 + (out1.length : Nat))) rfl
                clear hent
                go_wp2_with fail
                go_roundw
                case rel => exact ⟨k + 1, out1 ++ [x], x.idx, a8, c8, by go_num, by rw [show p + ((k + 1 : Nat) : Int) = base + 1 + (out1.length : Nat) from by have := Hmm.out; omega], by rw [Hi.out], hlt, Hrun2, Hput3, Lib.hid (by rw [show (out1 ++ [x]).length = out1.length + 1 from by simp]; exact Hps.out.2.1), Lib.hid (by rw [show (out1 ++ [x]).length = out1.length + 1 from by simp]; exact Hps.out.1), Lib.hid Hps.out.2.2.1, Lib.hid Hps.out.2.2.2.1⟩
                case measure => simp [intOf]; omega
            · have Hrun2 := Lib.hid (hrun.out.add (bt := bt) hlt (by rw [Hi.out]; have := Hmm.out; omega) hz)
              have Hput3 : Hid (put base bt (out ++ [x]) first (r.drop (k + 1)) = O) := by
                show _ = _
                rw [← Hput2.out, put, if_neg Hf.out, if_neg hz]
              have Hlen : Hid (out.length + 1 ≤ 2199023255560) := by have := hrun.out.ok.n; show _ ≤ _; omega
              have z1 : (first == 0) = false := beq_eq_false_iff_ne.2 hz
              clear hz d0 d1 d2 d3
              obtain ⟨Z, hZ⟩ : ∃ Z, Z = V2 := ⟨_, rfl⟩
              subst hZ
              have k0 := cell_n Hpre2.out.ent 1 (v := .int .i64 x.trm) rfl
              rcases hbr with t1 | ⟨t1, t2⟩
              all_goals
                have t3 : ((u2 != 0) = !(u2 == 0)) := rfl
                rw [t1] at t3
                have t4 : ((u1 != x.trm) = !(u1 == x.trm)) := rfl
                try rw [t2] at t4
                go_upto_region 19 with fail
                clear k0
                have k0 := cell_n Hpre2.out.log 0 (v := .int .i64 base) rfl
                have k2 := cell_n Hpre2.out.log 2 (v := .slice av' out.length cv') rfl
                have hent := Hpre2.out.ent
                rw [show (rowE x).toArray = #[.int .i64 x.idx, .int .i64 x.trm, .int .i64 x.knd, str x.dat] from rfl, Hi.out] at hent
                have d0 := cell_n hent 0 (v := .int .i64 (base + 1 + mm)) rfl
                have d1 := cell_n hent 1 (v := .int .i64 x.trm) rfl
                have d2 := cell_n hent 2 (v := .int .i64 x.knd) rfl
                have d3 := cell_n hent 3 (v := str x.dat) rfl
                have Ho1 := Lib.hid Hpre2.out.own
                have hBs : B + 2 ≤ Z.heap.size := lt_of_block Hpre2.out.log
                clear hent
                go_wp2_with (at_builtin; refine wpList_push rfl _ _ 50 rfl (B + 2) 56 _ 4 40 Try.underlying50 info_ent rfl (by decide) _ _ _ rfl Ho1.out _ rfl rfl (by intro u hu; simp at hu; rcases hu with hu | hu | hu | hu <;> (subst hu; rfl)) (by have := Hlen.out; unfold maxLen; omega) (by have := Hlen.out; omega) hBs ?_)
                intro v9 w8 ho8 hg8
                obtain ⟨a8, c8, rfl⟩ := owns_slice ho8
                have hrx : rowE x = [Value.int .i64 (base + 1 + mm), .int .i64 x.trm, .int .i64 x.knd, str x.dat] := by rw [← Hi.out]
                have hps := Hpre2.out.push hg8 (by rw [hrx]; exact ho8)
                have m2 := cell_n hps.1 2 (v := .slice av' out.length cv') rfl
                have g2 := free_n hps.1 2
                rw [show (out ++ [x]).length = out.length + 1 from by simp] at hps
                have Hps := Lib.hid hps.2
                clear hrx hps ho8 hg8 d0 d1 d2 d3 k0 k2
                obtain ⟨W9, hW9⟩ := hide (w8.setCell ⟨B + 1, 2, none⟩ (.slice a8 (out.length + 1) c8))
                rw [hW9.out] at Hps
                go_upto_region 20 with fail
                rw [hW9.out]
                clear m2 g2
                have hent := Hps.out.2.2.2.2
                rw [show (rowE x).toArray = #[.int .i64 x.idx, .int .i64 x.trm, .int .i64 x.knd, str x.dat] from rfl, Hi.out] at hent
                have d0 := cell_n hent 0 (v := .int .i64 (base + 1 + mm)) rfl
                clear hent
                go_wp2_with fail
                go_roundw
                case rel => exact ⟨k + 1, out ++ [x], first, a8, c8, by go_num, by rw [show p + ((k + 1 : Nat) : Int) = base + 1 + mm from by have := Hmm.out; omega], rfl, hlt, Hrun2, Hput3, Lib.hid (by rw [show (out ++ [x]).length = out.length + 1 from by simp]; exact Hps.out.2.1), Lib.hid (by rw [show (out ++ [x]).length = out.length + 1 from by simp]; exact Hps.out.1), Lib.hid Hps.out.2.2.1, Lib.hid Hps.out.2.2.2.1⟩
                case measure => simp [intOf]; omega
        · have hkn : k = r.length := by omega
          subst hkn
          have e1 : (out, first) = O := by rw [← hput.out, List.drop_length]; rfl
          subst e1
          go_wp2_with fail
          go_meet
          exact ⟨av', cv', rfl, rfl, hown, hlog, hbel⟩
    case rest =>
    obtain ⟨av', cv', rfl, rfl, Ho9, Hlog9, Hb9⟩ := hcut
    rw [Hlast.out, hO.out] at HP
    have k0 := cell_n Hlog9.out 0 (v := .int .i64 base) rfl
    have k1 := cell_n Hlog9.out 1 (v := .int .i64 bt) rfl
    have k2 := cell_n Hlog9.out 2 (v := .slice av' O.1.length cv') rfl
    have g0 := free_n Hlog9.out 0
    have g1 := free_n Hlog9.out 1
    have g2 := free_n Hlog9.out 2
    have HE9 := Lib.hid (setAll_at (xs := [.int .i64 base, .int .i64 bt, .slice av' O.1.length cv']) Hlog9.out [.int .i64 base, .int .i64 bt, .slice av' O.1.length cv'] rfl)
    have HB9 := Lib.hid (setAll_below Hb9.out (Nat.le_succ B) [.int .i64 base, .int .i64 bt, .slice av' O.1.length cv'])
    have HO9 : Hid (OwnE (B + 2) (setAll wc (B + 1) [.int .i64 base, .int .i64 bt, .slice av' O.1.length cv']) (.slice av' O.1.length cv') O.1) := own_up Ho9.out (Up.setAll _ wc (by omega) _) (Nat.le_refl _)
    go_wp2_with fail
    change bodyPost _ _ _ Exit.ret _ (setAll wc (B + 1) [.int .i64 base, .int .i64 bt, .slice av' O.1.length cv'])
    generalize setAll wc (B + 1) [.int .i64 base, .int .i64 bt, .slice av' O.1.length cv'] = W6 at HE9 HB9 HO9 ⊢
    clear k0 k1 k2 g0 g1 g2
    have q0 := cell_n HE9.out 0 (v := .int .i64 base) rfl
    have q1 := cell_n HE9.out 1 (v := .int .i64 bt) rfl
    have q2 := cell_n HE9.out 2 (v := .slice av' O.1.length cv') rfl
    refine bodyPost_ret (by simp [results, Try.results31, go_sem, q0, q1, q2]; rfl) rfl ?_
    rw [← HP.out]
    exact ⟨_, rfl, own_base HO9.out (by rw [hB.out]; omega), by rw [hB.out]; exact HB9.out⟩
end Go.Proofs.Ytlknkhmhdmpdkaa
