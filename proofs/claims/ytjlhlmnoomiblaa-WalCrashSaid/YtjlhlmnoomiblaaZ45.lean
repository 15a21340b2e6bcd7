/-
  What was kept is there: the law's own helpers: a file behind acts, two logs, what a file says.
-/
import Derived.Test.YtjlhlmnoomiblaaZ41
import Derived.Test.YtjlhlmnoomiblaaZ43
import Derived.Test.YtjlhlmnoomiblaaZ24
import Derived.Test.YtjlhlmnoomiblaaZ44
import Derived.Deep.CutRange
namespace Go.Proofs.Ytjlhlmnoomiblaa
open Go.RowKit Wm Mm Lg Fl
set_option linter.unusedVariables false
set_option linter.unusedSimpArgs false

theorem Acs.monoC {F : Nat → Prop} {w w' : World} {v : Value} {l : List ActP} (h : Acs F w v l) (hb : Below w.heap.size w w') : Acs F w' v l := h.frame (Plain.good _) (Agree.below hb)
theorem Ents.monoC {F : Nat → Prop} {w w' : World} {v : Value} {l : List EntP} (h : Ents F w v l) (hb : Below w.heap.size w w') : Ents F w' v l := h.frame (Plain.good _) (Agree.below hb)
theorem OwnA.acsC {S : Nat} {w : World} {v : Value} {l : List ActP} (h : OwnA S w v l) : Acs (fun b => S ≤ b) w v l := Sl.own rowA rowA_len h (fun _ _ => rfl) (fun _ _ h _ => h)
theorem Sl.fiveC {F : Nat → Prop} {w : World} {a : Option Addr} {n c : Nat} {l : List ActP} (h : Acs F w (.slice a n c) l) {k : Nat} (hk : k < l.length) :
    ∃ b off, a = some ⟨b, off, none⟩ ∧ w.cell? ⟨b, off + k * 5, none⟩ = some (.int .i64 l[k].what) ∧ w.cell? ⟨b, off + k * 5 + 1, none⟩ = some (str l[k].nam) ∧ w.cell? ⟨b, off + k * 5 + 2, none⟩ = some (str l[k].to) ∧ w.cell? ⟨b, off + k * 5 + 3, none⟩ = some (str l[k].dat) ∧ w.cell? ⟨b, off + k * 5 + 4, none⟩ = some (.int .i64 l[k].size) := by
  obtain ⟨b, off, us, e, _, _, hus, hcs⟩ := h.at hk
  have hus' : us = rowA l[k] := hus
  subst hus'
  exact ⟨b, off, e, hcs 0 _ rfl, hcs 1 _ rfl, hcs 2 _ rfl, hcs 3 _ rfl, hcs 4 _ rfl⟩
/-- a file's bytes, and what is put aside, behind an act -/
def stepD (p : List UInt8 × List UInt8) (a : ActP) : List UInt8 × List UInt8 :=
  if (a.what == 2 && a.nam == nLog) = true then (p.1 ++ a.dat, p.2) else if (a.what == 1) = true then (p.1, a.dat) else if (a.what == 4) = true then (p.2, p.2) else p
def doneP (s : List UInt8) (l : List ActP) : List UInt8 := (l.foldl stepD (s, [])).1
theorem stepD_len {M N : Nat} {p : List UInt8 × List UInt8} {a : ActP} (h : p.1.length ≤ N ∧ p.2.length ≤ M) (hM : M ≤ N) (ha : a.dat.length ≤ M) : (stepD p a).1.length ≤ N + M ∧ (stepD p a).2.length ≤ M := by
  unfold stepD
  split
  · exact ⟨by rw [List.length_append]; omega, h.2⟩
  · split
    · exact ⟨by show p.1.length ≤ _; omega, ha⟩
    · split
      · exact ⟨by show p.2.length ≤ _; omega, h.2⟩
      · exact ⟨by omega, h.2⟩
theorem doneP_save (s d : List UInt8) : doneP s [⟨2, nLog, [], d, 0⟩, ⟨3, nLog, [], [], 0⟩] = s ++ d := rfl
theorem doneP_cut (s d : List UInt8) : doneP s (cutA d) = d := rfl
set_option maxHeartbeats 4000000 in
set_option maxRecDepth 100000 in
theorem done_law (s : List UInt8) (v : Value) (l : List ActP) (F : Nat → Prop) (w : World) (h : Acs F w v l) (hs : s.length ≤ 1000000) (hd : ∀ a ∈ l, a.dat.length ≤ 1000000) (hl : l.length ≤ 8) :
    Calls Try.prog 6 #[str s, v] w fun e w' => e = .returned (str (doneP s l)) ∧ Below w.heap.size w w' := by
  obtain ⟨post, HP⟩ := hide (fun (e : Ending) (w' : World) => e = .returned (str (doneP s l)) ∧ Below w.heap.size w w')
  rw [HP.out]
  obtain ⟨ao, cap, rfl, hcap, hmax⟩ := h.slice
  have HF : Hid (∀ w', Below w.heap.size w w' → Acs F w' (.slice ao l.length cap) l) := fun w' hb => Acs.monoC h hb
  have HD := Lib.hid hd
  clear h hd
  go_enter Try.func6, Try.ntmps6
  go_wp2_with fail
  go_loopw [0, 5, 6] (fun s0 s5 s6 wr => ∃ (k : Nat) (x y : List UInt8), s6 = .int .i64 k ∧ s0 = str x ∧ s5 = str y ∧ k ≤ l.length ∧ Hid ((l.take k).foldl stepD (s, []) = (x, y)) ∧ Hid (x.length ≤ 1000000 + k * 1000000 ∧ y.length ≤ 1000000) ∧ Hid (Below w.heap.size w wr)) (fun _ _ s6 _ => l.length - (intOf s6).toNat)
  case atStart => exact ⟨0, s, [], rfl, rfl, rfl, Nat.zero_le _, rfl, ⟨by omega, by simp⟩, Below.refl _ _⟩
  case round =>
    obtain ⟨k, x, y, rfl, rfl, rfl, hk, hf, hxy, hb⟩ := hrel
    by_cases hlt : k < l.length
    · obtain ⟨b, off, rfl, c0, c1, c2, c3, c4⟩ := Sl.fiveC (HF.out wr hb.out) hlt
      have hst : ∀ a, l[k] = a → (l.take (k + 1)).foldl stepD (s, []) = stepD (x, y) a ∧ a.dat.length ≤ 1000000 := by
        rintro a rfl
        refine ⟨?_, HD.out _ (List.getElem_mem hlt)⟩
        rw [List.take_add_one, List.getElem?_eq_getElem hlt, List.foldl_append, hf.out]
        rfl
      have Hst := Lib.hid hst
      obtain ⟨a, ha⟩ := hide l[k]
      obtain ⟨h1, h2⟩ := Hst.out a ha.out
      have h3 := stepD_len (p := (x, y)) (N := 1000000 + k * 1000000) hxy.out (by omega) h2
      have h4 : 1000000 + k * 1000000 + 1000000 = 1000000 + (k + 1) * 1000000 := by omega
      rw [h4] at h3
      rw [ha.out] at c0 c1 c2 c3 c4
      obtain ⟨wh, nm, tt, dt, sz⟩ := a
      dsimp only at c0 c1 c2 c3 c4 h2
      obtain ⟨V, hV⟩ := hide (wr.alloc (.cells #[.int .i64 wh, str nm, str tt, str dt, .int .i64 sz] 45))
      obtain ⟨C, hC⟩ := hide wr.heap.size
      have hCV : V.heap[C]? = some (.cells #[.int .i64 wh, str nm, str tt, str dt, .int .i64 sz] 45 (0, 0)) := by rw [← hV.out, ← hC.out]; exact hp_at _ _ rfl
      have HbV : Hid (Below w.heap.size w V) := by show Below _ _ _; rw [← hV.out]; exact hb.out.alloc hb.out.size _
      have hle : ¬ 9223372036854775807 < x.length + dt.length := by have := hxy.out.1; omega
      have e0 := cell_n hCV 0 (v := .int .i64 wh) rfl
      have e1 := cell_n hCV 1 (v := str nm) rfl
      have e3 := cell_n hCV 3 (v := str dt) rfl
      have Hnx : Hid (∀ x' y', stepD (x, y) ⟨wh, nm, tt, dt, sz⟩ = (x', y') → Hid ((l.take (k + 1)).foldl stepD (s, []) = (x', y')) ∧ Hid (x'.length ≤ 1000000 + (k + 1) * 1000000 ∧ y'.length ≤ 1000000)) := by
        show ∀ x' y', _ → _
        intro x' y' he
        rw [he] at h1 h3
        exact ⟨h1, h3⟩
      have Hlt := Lib.hid hlt
      clear hst h1 h2 h3 h4 hCV
      go_upto_region 6 with fail
      rw [hV.out, hC.out]
      clear c0 c1 c2 c3 c4
      by_cases q1 : (wh == 2) = true
      · by_cases q2 : (nm == nLog) = true
        · obtain ⟨g1, g2⟩ := Hnx.out (x ++ dt) y (by unfold stepD; dsimp only; rw [q1, q2]; rfl)
          go_wp2_with fail
          go_roundw
          case rel => exact ⟨k + 1, x ++ dt, y, by go_num, rfl, rfl, Hlt.out, g1, g2, HbV⟩
          case measure => simp [intOf]; omega
        · have q2' : (nm == nLog) = false := by simpa using q2
          have q3 : (wh == 1) = false := by rw [eq_of_beq q1]; rfl
          have q4 : (wh == 4) = false := by rw [eq_of_beq q1]; rfl
          obtain ⟨g1, g2⟩ := Hnx.out x y (by unfold stepD; dsimp only; rw [q1, q2', q3, q4]; rfl)
          clear q2
          go_wp2_with fail
          go_roundw
          case rel => exact ⟨k + 1, x, y, by go_num, rfl, rfl, Hlt.out, g1, g2, HbV⟩
          case measure => simp [intOf]; omega
      · have q1' : (wh == 2) = false := by simpa using q1
        clear q1
        by_cases q3 : (wh == 1) = true
        · obtain ⟨g1, g2⟩ := Hnx.out x dt (by unfold stepD; dsimp only; rw [q1', q3]; rfl)
          go_wp2_with fail
          go_roundw
          case rel => exact ⟨k + 1, x, dt, by go_num, rfl, rfl, Hlt.out, g1, g2, HbV⟩
          case measure => simp [intOf]; omega
        · have q3' : (wh == 1) = false := by simpa using q3
          clear q3
          by_cases q4 : (wh == 4) = true
          · obtain ⟨g1, g2⟩ := Hnx.out y y (by unfold stepD; dsimp only; rw [q1', q3', q4]; rfl)
            go_wp2_with fail
            go_roundw
            case rel => exact ⟨k + 1, y, y, by go_num, rfl, rfl, Hlt.out, g1, g2, HbV⟩
            case measure => simp [intOf]; omega
          · have q4' : (wh == 4) = false := by simpa using q4
            clear q4
            obtain ⟨g1, g2⟩ := Hnx.out x y (by unfold stepD; dsimp only; rw [q1', q3', q4']; rfl)
            go_wp2_with fail
            go_roundw
            case rel => exact ⟨k + 1, x, y, by go_num, rfl, rfl, Hlt.out, g1, g2, HbV⟩
            case measure => simp [intOf]; omega
    · obtain rfl : k = l.length := by omega
      have Hf : Hid (doneP s l = x) := by
        have h := hf.out
        rw [List.take_length] at h
        show _ = _
        unfold doneP
        rw [h]
      go_wp2_with fail
      rw [← HP.out, Hf.out]
      exact ⟨rfl, hb.out⟩
set_option maxHeartbeats 4000000 in
set_option maxRecDepth 100000 in
theorem sameLog_law (base bt base' bt' : Int) (v v2 : Value) (es es' : List EntP) (F G : Nat → Prop) (w : World) (h : Ents F w v es) (h2 : Ents G w v2 es') (hn : es.length ≤ 1099511627775) :
    Calls Try.prog 10 #[.agg #[.int .i64 base, .int .i64 bt, v], .agg #[.int .i64 base', .int .i64 bt', v2]] w fun e w' => ∃ q, e = .returned (.bool q) ∧ (base = base' ∧ bt = bt' ∧ es = es' → q = true) ∧ Below w.heap.size w w' := by
  obtain ⟨post, HP⟩ := hide (fun (e : Ending) (w' : World) => ∃ q, e = .returned (.bool q) ∧ (base = base' ∧ bt = bt' ∧ es = es' → q = true) ∧ Below w.heap.size w w')
  rw [HP.out]
  obtain ⟨ao, cap, rfl, hcap, hmax⟩ := h.slice
  obtain ⟨ao2, cap2, rfl, hcap2, _⟩ := h2.slice
  obtain ⟨W, hW⟩ := hide ((w.alloc (.cells #[.int .i64 base, .int .i64 bt, .slice ao es.length cap] 29)).alloc (.cells #[.int .i64 base', .int .i64 bt', .slice ao2 es'.length cap2] 29))
  obtain ⟨B, hB⟩ := hide w.heap.size
  have hb0 : Below w.heap.size w W := by rw [← hW.out]; exact ((Below.refl _ _).alloc (Nat.le_refl _) _).alloc (by simp) _
  have hc : W.heap[B]? = some (.cells #[.int .i64 base, .int .i64 bt, .slice ao es.length cap] 29 (0, 0)) := by rw [← hW.out, ← hB.out]; exact (hp_past _ _ (by simp)).trans (hp_at _ _ rfl)
  have hd : W.heap[B + 1]? = some (.cells #[.int .i64 base', .int .i64 bt', .slice ao2 es'.length cap2] 29 (0, 0)) := by rw [← hW.out, ← hB.out]; exact hp_at _ _ (by simp)
  have HF : Hid (∀ w', Below W.heap.size W w' → Ents F w' (.slice ao es.length cap) es) := fun w' hb => Ents.monoC h (hb0.trans (hb.mono hb0.size))
  have HG : Hid (∀ w', Below W.heap.size W w' → Ents G w' (.slice ao2 es'.length cap2) es') := fun w' hb => Ents.monoC h2 (hb0.trans (hb.mono hb0.size))
  have HNo : Hid (∀ w', Below W.heap.size W w' → ¬ (base = base' ∧ bt = bt' ∧ es = es') → post (.returned (.bool false)) w') := by
    show ∀ w', _ → _ → _
    intro w' hb hh
    rw [← HP.out]
    exact ⟨false, rfl, fun h => absurd h hh, hb0.trans (hb.mono hb0.size)⟩
  have HYes : Hid (∀ w', Below W.heap.size W w' → post (.returned (.bool true)) w') := by
    show ∀ w', _ → _
    intro w' hb
    rw [← HP.out]
    exact ⟨true, rfl, fun _ => rfl, hb0.trans (hb.mono hb0.size)⟩
  have HX := Lib.hid (And.intro hc hd)
  have d0 := cell_n hc 0 (v := .int .i64 base) rfl
  have d1 := cell_n hc 1 (v := .int .i64 bt) rfl
  have d2 := cell_n hc 2 (v := .slice ao es.length cap) rfl
  have e0 := cell_n hd 0 (v := .int .i64 base') rfl
  have e1 := cell_n hd 1 (v := .int .i64 bt') rfl
  have e2 := cell_n hd 2 (v := .slice ao2 es'.length cap2) rfl
  clear h h2 hb0 hc hd hmax
  go_enter Try.func10, Try.ntmps10
  go_upto_region 1 with fail
  rw [hW.out, hB.out]
  by_cases h1 : base = base'
  · by_cases h2 : bt = bt'
    · by_cases h3 : es.length = es'.length
      · subst h1 h2
        have t1 : (base == base) = true := beq_self_eq_true _
        have t2 : (bt == bt) = true := beq_self_eq_true _
        have HL := Lib.hid h3
        obtain ⟨n, hn0⟩ := hide es'.length
        have hn1 : es.length = n := HL.out.trans hn0.out
        rw [hn0.out] at e2 HG HX
        rw [hn1] at d2 HF HX hn
        have t3 : ((n : Int) == (n : Int)) = true := beq_self_eq_true _
        have Hn1 := Lib.hid hn1
        clear h3 hn1
        go_wp2_with fail
        go_loopw [5] (fun s5 wr => ∃ k : Nat, s5 = .int .i64 k ∧ k ≤ n ∧ Hid (Below W.heap.size W wr)) (fun s5 _ => n - (intOf s5).toNat)
        case atStart => exact ⟨0, rfl, Nat.zero_le _, Below.refl _ _⟩
        case round =>
          obtain ⟨k, rfl, hk, hb⟩ := hrel
          have hx := (hb.out.block _ (lt_of_block HX.out.1)).trans HX.out.1
          have hx2 := (hb.out.block _ (lt_of_block HX.out.2)).trans HX.out.2
          have p2 := cell_n hx 2 (v := .slice ao n cap) rfl
          have r2 := cell_n hx2 2 (v := .slice ao2 n cap2) rfl
          by_cases hlt : k < n
          · have hk1 : k < es.length := by rw [Hn1.out]; exact hlt
            have hk2 : k < es'.length := by rw [hn0.out]; exact hlt
            obtain ⟨b, off, rfl, c0, c1, c2, c3⟩ := Sl.fourE (HF.out wr hb.out) hk1
            obtain ⟨b', off', rfl, g0, g1, g2, g3⟩ := Sl.fourE (HG.out wr hb.out) hk2
            obtain ⟨y, hy⟩ := hide es[k]
            obtain ⟨z, hz⟩ := hide es'[k]
            rw [hy.out] at c0 c1 c2 c3
            rw [hz.out] at g0 g1 g2 g3
            clear hx hx2
            by_cases hne : y = z
            · subst hne
              go_wp2_with fail
              go_region
              have hb3 : Hid (Below W.heap.size W wr.drew) := hb.out.drew
              have hk9 : k ≤ 1099511627775 := by omega
              go_wp2_with fail
              go_roundw
              case rel => exact ⟨k + 1, by go_num, hlt, hb3⟩
              case measure => simp [intOf]; omega
            · have hne2 : ¬ (base = base ∧ bt = bt ∧ es = es') := fun he => hne (by
                obtain ⟨_, _, he⟩ := he
                subst he
                rw [← hy.out, ← hz.out])
              have Hq := Lib.hid (HNo.out wr.drew hb.out.drew (fun he => hne2 ⟨rfl, rfl, he.2.2⟩))
              obtain ⟨yi, yt, yk, yd⟩ := y
              obtain ⟨zi, zt, zk, zd⟩ := z
              dsimp only at c0 c1 c2 c3 g0 g1 g2 g3
              have hb4 : ¬ ((yi == zi) = true ∧ (yt == zt) = true ∧ (yk == zk) = true ∧ (yd == zd) = true) := fun hh => hne (by rw [eq_of_beq hh.1, eq_of_beq hh.2.1, eq_of_beq hh.2.2.1, eq_of_beq hh.2.2.2])
              clear hne hne2 HNo HYes
              cases q0 : (yi == zi) <;> cases q1 : (yt == zt) <;> cases q2 : (yk == zk) <;> cases q3 : (yd == zd)
              case true.true.true.true => exact absurd ⟨q0, q1, q2, q3⟩ hb4
              all_goals
                clear hb4
                go_wp2_with fail
                go_region
                go_wp2_with fail
                exact Hq.out
          · obtain rfl : k = n := by omega
            have Hq := Lib.hid (HYes.out wr hb.out)
            go_wp2_with fail
            exact Hq.out
      · have Hq := Lib.hid (HNo.out W (Below.refl _ _) (fun he => h3 (by rw [he.2.2])))
        subst h1 h2
        have t1 : (base == base) = true := beq_self_eq_true _
        have t2 : (bt == bt) = true := beq_self_eq_true _
        have t3 : ((es.length : Int) == (es'.length : Int)) = false := beq_eq_false_iff_ne.2 (by omega)
        have t4 : (es.length == es'.length) = false := beq_eq_false_iff_ne.2 h3
        go_wp2_with fail
        all_goals exact Hq.out
    · have Hq := Lib.hid (HNo.out W (Below.refl _ _) (fun he => h2 he.2.1))
      subst h1
      have t1 : (base == base) = true := beq_self_eq_true _
      have t2 : (bt == bt') = false := beq_eq_false_iff_ne.2 h2
      have t3 : (bt != bt') = true := bne_iff_ne.2 h2
      clear h2
      go_wp2_with fail
      all_goals exact Hq.out
  · have Hq := Lib.hid (HNo.out W (Below.refl _ _) (fun he => h1 he.1))
    have t1 : (base == base') = false := beq_eq_false_iff_ne.2 h1
    have t3 : (base != base') = true := bne_iff_ne.2 h1
    clear h1
    go_wp2_with fail
    all_goals exact Hq.out
set_option maxHeartbeats 4000000 in
set_option maxRecDepth 100000 in
theorem is_law (k : Kp) (ev x y z cx cy cz : Value) (s : List UInt8) (a b d : Value) (F : Nat → Prop) (w : World) (hE : Ents F w ev k.es) (hc : Config3 w x y z k.sc) (hcf : Config3 w cx cy cz k.cf) (h12 : Config3 w a b d c12) (hs : s.length ≤ 1000000) (hn : k.es.length ≤ 1099511627775) (ho : openP [⟨nLog, s⟩] c12 = some (k, [])) :
    Calls Try.prog 8 #[.agg (cellsK k ev x y z cx cy cz), str s, .agg #[a, b, d]] w fun e w' => e = .returned (.bool true) ∧ Below w.heap.size w w' := by
  obtain ⟨ae, af, hea, _, _⟩ := hE.slice
  obtain ⟨a1, ap1, h1a, _⟩ := len_of_Ints hc.v
  obtain ⟨a2, ap2, h2a, _⟩ := len_of_Ints hc.n
  obtain ⟨a3, ap3, h3a, _⟩ := len_of_Ints hc.l
  obtain ⟨a4, ap4, h4a, _⟩ := len_of_Ints hcf.v
  obtain ⟨a5, ap5, h5a, _⟩ := len_of_Ints hcf.n
  obtain ⟨a6, ap6, h6a, _⟩ := len_of_Ints hcf.l
  subst hea h1a h2a h3a h4a h5a h6a
  obtain ⟨m1, mp1, rfl, _⟩ := len_of_Ints h12.v
  obtain ⟨m2, mp2, rfl, _⟩ := len_of_Ints h12.n
  obtain ⟨m3, mp3, rfl, _⟩ := len_of_Ints h12.l
  have h12 : Config3 w (.slice m1 2 mp1) (.slice m2 0 mp2) (.slice m3 0 mp3) c12 := h12
  obtain ⟨W, hW⟩ := hide ((w.alloc (.cells #[.int .i64 k.t, .int .i64 k.v, .int .i64 k.c, .int .i64 k.base, .int .i64 k.bt, .slice ae k.es.length af, .int .i64 k.si, .int .i64 k.st, .slice a1 k.sc.v.length ap1, .slice a2 k.sc.n.length ap2, .slice a3 k.sc.l.length ap3, str k.sd, .slice a4 k.cf.v.length ap4, .slice a5 k.cf.n.length ap5, .slice a6 k.cf.l.length ap6] 33)).alloc (.cells #[.slice m1 2 mp1, .slice m2 0 mp2, .slice m3 0 mp3] 24))
  obtain ⟨B, hB⟩ := hide w.heap.size
  have hb0 : Below w.heap.size w W := by rw [← hW.out]; exact ((Below.refl _ _).alloc (Nat.le_refl _) _).alloc (by simp) _
  have HK : Hid (W.heap[B]? = some (.cells #[.int .i64 k.t, .int .i64 k.v, .int .i64 k.c, .int .i64 k.base, .int .i64 k.bt, .slice ae k.es.length af, .int .i64 k.si, .int .i64 k.st, .slice a1 k.sc.v.length ap1, .slice a2 k.sc.n.length ap2, .slice a3 k.sc.l.length ap3, str k.sd, .slice a4 k.cf.v.length ap4, .slice a5 k.cf.n.length ap5, .slice a6 k.cf.l.length ap6] 33 (0, 0))) := by show _ = _; rw [← hW.out, ← hB.out]; exact (hp_past _ _ (by simp)).trans (hp_at _ _ rfl)
  have hcb : W.heap[B + 1]? = some (.cells #[.slice m1 2 mp1, .slice m2 0 mp2, .slice m3 0 mp3] 24 (0, 0)) := by rw [← hW.out, ← hB.out]; exact hp_at _ _ (by simp)
  have Hb0 := Lib.hid hb0
  have HE : Hid (∀ w', Below W.heap.size W w' → Ents F w' (.slice ae k.es.length af) k.es) := fun w' hb => Ents.monoC hE (hb0.trans (hb.mono hb0.size))
  obtain ⟨V, hV⟩ := hide (W.alloc (.cells #[str nLog, str s] 53))
  obtain ⟨C, hC⟩ := hide W.heap.size
  have hbV : Below W.heap.size W V := by rw [← hV.out]; exact (Below.refl _ _).alloc (Nat.le_refl _) _
  have HFl : Hid (Fls (fun b => W.heap.size ≤ b) V (.slice (some ⟨C, 0, none⟩) 1 1) [⟨nLog, s⟩]) := by
    show Fls _ _ _ _
    have hg : V.heap[C]? = some (.cells (([⟨nLog, s⟩] : List FileP).flatMap rowF).toArray 53 (0, 0)) := by rw [← hV.out, ← hC.out]; exact hp_at _ _ rfl
    have h1 : OwnF W.heap.size V (.slice (some ⟨C, 0, none⟩) 1 1) [⟨nLog, s⟩] := own_lit rowF rowF_len hg (by rw [← hC.out]; exact Nat.le_refl _) (by unfold maxLen; simp)
    exact OwnF.fls h1
  have HO := Lib.hid (open_wal _ [⟨nLog, s⟩] _ _ _ c12 _ V HFl.out ((h12.mono hb0).mono hbV) (by intro f hf; simp at hf; subst hf; show s.length ≤ _; omega) (by simp))
  rw [ho] at HO
  have HbV := Lib.hid hbV
  have hcv : (W.alloc (.cells #[.string ⟨#[108, 111, 103]⟩, str s] 53)).heap[B + 1]? = some (.cells #[.slice m1 2 mp1, .slice m2 0 mp2, .slice m3 0 mp3] 24 (0, 0)) := (hp_past _ _ (by have := lt_of_block hcb; omega)).trans hcb
  have e0 := cell_n hcv 0 (v := .slice m1 2 mp1) rfl
  have e1 := cell_n hcv 1 (v := .slice m2 0 mp2) rfl
  have e2 := cell_n hcv 2 (v := .slice m3 0 mp3) rfl
  clear hcv
  have Hn := Lib.hid hn
  clear hE hc hcf h12 ho hb0 hcb hbV hn
  go_enter Try.func8, Try.ntmps8
  go_upto_region 1 with fail
  rw [hW.out, hB.out]
  go_wp2_with fail
  rw [hC.out]
  refine Calls.mono (by show Calls _ _ _ (W.alloc (.cells #[str nLog, str s] 53)) _; rw [hV.out]; exact HO.out) ?_
  rintro e w1 ⟨hb1, ev1, x1, y1, z1, cx1, cy1, cz1, av1, rfl, hE1, hs1, hf1, hA1⟩
  obtain ⟨q4, r4, hav, _, _⟩ := hA1.slice
  subst hav
  obtain ⟨be, bf, heb, _, _⟩ := hE1.slice
  obtain ⟨b1, bp1, h1b, _⟩ := len_of_Ints hs1.v
  obtain ⟨b2, bp2, h2b, _⟩ := len_of_Ints hs1.n
  obtain ⟨b3, bp3, h3b, _⟩ := len_of_Ints hs1.l
  obtain ⟨b4, bp4, h4b, _⟩ := len_of_Ints hf1.v
  obtain ⟨b5, bp5, h5b, _⟩ := len_of_Ints hf1.n
  obtain ⟨b6, bp6, h6b, _⟩ := len_of_Ints hf1.l
  subst heb h1b h2b h3b h4b h5b h6b
  have Hb1 : Hid (Below W.heap.size W w1) := HbV.out.trans (hb1.mono HbV.out.size)
  obtain ⟨U, hU⟩ := hide (w1.alloc (.cells #[.int .i64 k.t, .int .i64 k.v, .int .i64 k.c, .int .i64 k.base, .int .i64 k.bt, .slice be k.es.length bf, .int .i64 k.si, .int .i64 k.st, .slice b1 k.sc.v.length bp1, .slice b2 k.sc.n.length bp2, .slice b3 k.sc.l.length bp3, str k.sd, .slice b4 k.cf.v.length bp4, .slice b5 k.cf.n.length bp5, .slice b6 k.cf.l.length bp6] 33))
  obtain ⟨M, hM⟩ := hide w1.heap.size
  have hbU : Below w1.heap.size w1 U := by rw [← hU.out]; exact (Below.refl _ _).alloc (Nat.le_refl _) _
  have HbU : Hid (Below W.heap.size W U) := Hb1.out.trans (hbU.mono Hb1.out.size)
  have HMU : Hid (U.heap[M]? = some (.cells #[.int .i64 k.t, .int .i64 k.v, .int .i64 k.c, .int .i64 k.base, .int .i64 k.bt, .slice be k.es.length bf, .int .i64 k.si, .int .i64 k.st, .slice b1 k.sc.v.length bp1, .slice b2 k.sc.n.length bp2, .slice b3 k.sc.l.length bp3, str k.sd, .slice b4 k.cf.v.length bp4, .slice b5 k.cf.n.length bp5, .slice b6 k.cf.l.length bp6] 33 (0, 0))) := by show _ = _; rw [← hU.out, ← hM.out]; exact hp_at _ _ rfl
  have HKU : Hid (U.heap[B]? = _) := (HbU.out.block B (lt_of_block HK.out)).trans HK.out
  have HSL := Lib.hid (sameLog_law k.base k.bt k.base k.bt _ _ k.es k.es _ F U (Ents.monoC hE1 hbU) (HE.out U HbU.out) Hn.out)
  clear hb1 hE1 hs1 hf1 hA1 hbU e0 e1 e2
  dsimp only
  go_upto_region 2 with fail
  rw [hU.out, hM.out]
  have p3 := cell_n HMU.out 3 (v := .int .i64 k.base) rfl
  have p4 := cell_n HMU.out 4 (v := .int .i64 k.bt) rfl
  have p5 := cell_n HMU.out 5 (v := .slice be k.es.length bf) rfl
  have q3 := cell_n HKU.out 3 (v := .int .i64 k.base) rfl
  have q4 := cell_n HKU.out 4 (v := .int .i64 k.bt) rfl
  have q5 := cell_n HKU.out 5 (v := .slice ae k.es.length af) rfl
  go_wp2_with fail
  refine HSL.out.mono ?_
  rintro e w2 ⟨qq, rfl, hq, hb2⟩
  obtain rfl : qq = true := hq (by simp)
  have Hb2 : Hid (Below W.heap.size W w2) := HbU.out.trans (hb2.mono HbU.out.size)
  have HM2 : Hid (w2.heap[M]? = _) := (hb2.block M (lt_of_block HMU.out)).trans HMU.out
  have HK2 : Hid (w2.heap[B]? = _) := (hb2.block B (lt_of_block HKU.out)).trans HKU.out
  clear hb2 hq p3 p4 p5 q3 q4 q5
  have p0 := cell_n HM2.out 0 (v := .int .i64 k.t) rfl
  have p1 := cell_n HM2.out 1 (v := .int .i64 k.v) rfl
  have p2 := cell_n HM2.out 2 (v := .int .i64 k.c) rfl
  have p6 := cell_n HM2.out 6 (v := .int .i64 k.si) rfl
  have p11 := cell_n HM2.out 11 (v := str k.sd) rfl
  have q0 := cell_n HK2.out 0 (v := .int .i64 k.t) rfl
  have q1 := cell_n HK2.out 1 (v := .int .i64 k.v) rfl
  have q2 := cell_n HK2.out 2 (v := .int .i64 k.c) rfl
  have q6 := cell_n HK2.out 6 (v := .int .i64 k.si) rfl
  have q11 := cell_n HK2.out 11 (v := str k.sd) rfl
  dsimp only
  go_wp2_with fail
  go_ret
  exact ⟨rfl, Hb0.out.trans (Hb2.out.mono Hb0.out.size)⟩
end Go.Proofs.Ytjlhlmnoomiblaa
