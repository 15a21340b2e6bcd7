/-
  Copies of lists, of configurations; are two configurations the same?
-/
import Derived.Test.YtjlhlmnoomiblaaGreatZ12
import Derived.Test.YtjlhlmnoomiblaaGreatZ10
import Derived.Deep.RegionHeld3
namespace Go.Proofs.YtjlhlmnoomiblaaGreat
open Go.RowKit Wm Mm
set_option linter.unusedVariables false

theorem src_ints {P : Program} {w : World} {v : Value} {l : List Int} {tx e' : TypeId} (hk : P.underlying tx = some (.slice e')) (h : Ints w v l) : Src P 1 tx v l.length (l.map (Value.int .i64)) w := by
  obtain ⟨ao, cap, rfl, hc, _⟩ := h
  by_cases hl : l = []
  · subst hl
    cases ao with
    | none => exact Src.ofNil w hk cap
    | some a => exact Src.ofSlice w hk a 0 cap _ rfl (fun j u hj => by simp at hj) (fun u hu => by simp at hu)
  · obtain ⟨b, off, rfl, hcell⟩ := hc hl
    refine Src.ofSlice w hk _ _ cap _ (by simp) (fun j u hj => ?_) (fun u hu => ?_)
    · rw [List.getElem?_map] at hj
      obtain ⟨x, hx, rfl⟩ := Option.map_eq_some_iff.1 hj
      have hadd : (⟨b, off, none⟩ : Addr).add j = ⟨b, off + j, none⟩ := by unfold Addr.add; split <;> simp_all
      rw [hadd]
      exact hcell j x hx
    · obtain ⟨x, _, rfl⟩ := List.mem_map.1 hu
      rfl
set_option maxHeartbeats 1000000 in
theorem law_ints (v : Value) (l : List Int) (w : World) (hv : Ints w v l) (hn : l.length ≤ 17592186044000) :
    Calls Tryz.prog 29 #[v] w fun e w' => ∃ v', e = .returned v' ∧ IntsF w.heap.size w' v' l ∧ Below w.heap.size w w' := by
  have hs := src_ints (P := Tryz.prog) (tx := 25) Tryz.underlying25 hv
  obtain ⟨ao, cap, rfl, hm⟩ := len_of_Ints hv
  obtain ⟨xs, hxs⟩ := hide (l.map (Value.int .i64))
  rw [hxs.out] at hs
  have Hs := Lib.hid hs
  have h1 : ∀ u ∈ xs ++ [Value.int .i64 99], u.oneCell' = true := by
    intro u hu
    rw [← hxs.out] at hu
    rcases List.mem_append.1 hu with h | h
    · obtain ⟨x, _, rfl⟩ := List.mem_map.1 h; rfl
    · simp at h; subst h; rfl
  clear hs hv
  go_enter Tryz.func29, Tryz.ntmps29
  go_wp2_with (at_builtin; first
    | refine wpList_append_src rfl _ _ 25 25 rfl w.heap.size 3 (.int .i64 0) 1 8 Tryz.underlying25 info_int rfl _ 0 [] rfl (World.ownsRow_nil _ _ _ _) _ l.length xs rfl Hs.out (by unfold maxLen; omega) (by omega) (Nat.le_refl _) ?_)
  intro v1 w1 ho1 hg1
  have hb1 : Below w.heap.size w w1 := below_own (World.ownsRow_nil w w.heap.size 3 1) hg1 (Nat.le_refl _) (Nat.le_refl _)
  have Hb1 := Lib.hid hb1
  have hsz := hb1.size
  have Ho1 := Lib.hid ho1
  obtain ⟨a1, c1, rfl⟩ := owns_slice ho1
  clear ho1 hg1 hb1
  go_wp2_with (at_builtin; refine wpList_push rfl _ _ 25 rfl w.heap.size 3 (.int .i64 0) 1 8 Tryz.underlying25 info_int rfl (by decide) _ _ _ rfl Ho1.out _ rfl rfl (by intro u hu; simp at hu; subst hu; rfl) (by unfold maxLen; omega) (by omega) hsz ?_)
  intro v2 w2 ho2 hg2
  obtain ⟨a2, c2, rfl⟩ := owns_slice ho2
  have Hb2 : Hid (Below w.heap.size w w2) := Hb1.out.trans (below_own Ho1.out hg2 (Nat.le_refl _) hsz)
  have hI : IntsF w.heap.size w2 (.slice a2 (l.length + 1) c2) (l ++ [99]) := IntsF.of_own (n := l.length + 1) (base := w.heap.size) (e := 3) (by rw [List.map_append, hxs.out]; exact ho2)
  have hcut := hI.cut
  have hcap : l.length + 1 ≤ c2 := by
    rcases ho2.2 with ⟨h, h0⟩ | ⟨g, cap, cur, h, _, _, h1, _⟩
    · injection h with _ e2 e3; omega
    · injection h with _ e2 e3; omega
  have HI := Lib.hid hcut
  clear ho2 hg2 hI hcut
  have hlc : l.length ≤ c2 := by omega
  go_wp2_with fail
  go_ret
  exact ⟨_, rfl, HI.out, Hb2.out⟩

set_option maxHeartbeats 2000000 in
set_option maxRecDepth 100000 in
theorem law_conf (a b d : Value) (c : Conf) (w : World) (hc : Config3 w a b d c) (hn : c.v.length ≤ 17592186044000) (hn2 : c.n.length ≤ 17592186044000) (hn3 : c.l.length ≤ 17592186044000) :
    Calls Tryz.prog 7 #[.agg #[a, b, d]] w fun e w' => ∃ a' b' d', e = .returned (.agg #[a', b', d']) ∧ Config3F w.heap.size w' a' b' d' c ∧ Below w.heap.size w w' := by
  obtain ⟨post, HP⟩ := hide (fun (e : Ending) (w' : World) => ∃ a' b' d', e = .returned (.agg #[a', b', d']) ∧ Config3F w.heap.size w' a' b' d' c ∧ Below w.heap.size w w')
  rw [HP.out]
  have hb1 : Below w.heap.size w ((w.alloc (.cells #[a, b, d] 27)).alloc (.cells #[.slice none 0 0, .slice none 0 0, .slice none 0 0] 27)) := ((Below.refl _ _).alloc (Nat.le_refl _) _).alloc (by simp) _
  obtain ⟨W, hW⟩ := hide ((w.alloc (.cells #[a, b, d] 27)).alloc (.cells #[.slice none 0 0, .slice none 0 0, .slice none 0 0] 27))
  have hx : W.heap[w.heap.size]? = some (.cells #[a, b, d] 27 (0, 0)) := by rw [← hW.out]; exact (hp_past _ _ (by simp)).trans (hp_at _ _ rfl)
  have hy : W.heap[w.heap.size + 1]? = some (.cells #[.slice none 0 0, .slice none 0 0, .slice none 0 0] 27 (0, 0)) := by rw [← hW.out]; exact hp_at _ _ (by simp)
  rw [hW.out] at hb1
  have Hc : Hid (∀ w', Below w.heap.size w w' → Config3 w' a b d c) := fun w' h => hc.mono h
  have HI : Hid (∀ w', Below w.heap.size w w' → (Calls Tryz.prog 29 #[a] w' fun e w'' => ∃ v', e = .returned v' ∧ IntsF w'.heap.size w'' v' c.v ∧ Below w'.heap.size w' w'') ∧ (Calls Tryz.prog 29 #[b] w' fun e w'' => ∃ v', e = .returned v' ∧ IntsF w'.heap.size w'' v' c.n ∧ Below w'.heap.size w' w'') ∧ (Calls Tryz.prog 29 #[d] w' fun e w'' => ∃ v', e = .returned v' ∧ IntsF w'.heap.size w'' v' c.l ∧ Below w'.heap.size w' w'')) := by
    show ∀ w', _ → _
    intro w' hw
    have h := Hc.out w' hw
    exact ⟨law_ints _ _ _ h.v hn, law_ints _ _ _ h.n hn2, law_ints _ _ _ h.l hn3⟩
  have Hx : Hid (∀ w', Below W.heap.size W w' → w'.heap[w.heap.size]? = some (.cells #[a, b, d] 27 (0, 0)) ∧ w'.heap[w.heap.size + 1]? = some (.cells #[.slice none 0 0, .slice none 0 0, .slice none 0 0] 27 (0, 0)) ∧ Below w.heap.size w w') := fun w' h => ⟨(h.block _ (lt_of_block hx)).trans hx, (h.block _ (lt_of_block hy)).trans hy, hb1.trans (h.mono hb1.size)⟩
  have Hws : Hid (w.heap.size + 1 < W.heap.size) := lt_of_block hy
  clear hb1 hx hy hc hn hn2 hn3
  obtain ⟨B, hB⟩ := hide w.heap.size
  rw [hB.out] at Hx HI Hws
  have h0 : Below W.heap.size W W.drew := (Below.refl _ _).drew
  have H0 := Lib.hid h0
  have x0 := (Hx.out _ h0).1
  have c0 : W.drew.cell? ⟨B, 0, none⟩ = some a := cell_n x0 0 rfl
  have c1 : W.drew.cell? ⟨B, 1, none⟩ = some b := cell_n x0 1 rfl
  have c2 : W.drew.cell? ⟨B, 2, none⟩ = some d := cell_n x0 2 rfl
  clear x0 h0
  go_enter Tryz.func7, Tryz.ntmps7
  go_upto_region 1 with fail
  rw [hW.out, hB.out]
  go_region_held3 (fun w' => w'.cell? ⟨B, 0, none⟩ = some a ∧ w'.cell? ⟨B, 1, none⟩ = some b ∧ w'.cell? ⟨B, 2, none⟩ = some d)
    (first | with_reducible exact ⟨c0, c1, c2⟩ | exact hset)
    (first
    | (go_at_call 29; with_reducible refine (HI.out _ (Hx.out _ H0.out).2.2).1.mono ?_; rintro e V1 ⟨v1, rfl, hi, hb⟩; obtain ⟨ao1, cp1, rfl⟩ := hi.len; have H1 := Lib.hid (H0.out.trans (hb.mono H0.out.size)); have Hi1 := Lib.hid (hi.base H0.out.size); have x1 := (Hx.out _ H1.out).1; have c0 : V1.cell? ⟨B, 0, none⟩ = some a := cell_n x1 0 rfl; have c1 : V1.cell? ⟨B, 1, none⟩ = some b := cell_n x1 1 rfl; have c2 : V1.cell? ⟨B, 2, none⟩ = some d := cell_n x1 2 rfl;  clear hb hi x1)
    | (go_at_call 29; with_reducible refine (HI.out _ (Hx.out _ H1.out).2.2).2.1.mono ?_; rintro e V2 ⟨v2, rfl, hi, hb⟩; obtain ⟨ao2, cp2, rfl⟩ := hi.len; have H2 := Lib.hid (H1.out.trans (hb.mono H1.out.size)); have Hi2 := Lib.hid (hi.base H1.out.size); have Hj1 := Lib.hid (Hi1.out.up (Up.ofBelow hb) (Nat.le_refl _)); have x1 := (Hx.out _ H2.out).1; have c0 : V2.cell? ⟨B, 0, none⟩ = some a := cell_n x1 0 rfl; have c1 : V2.cell? ⟨B, 1, none⟩ = some b := cell_n x1 1 rfl; have c2 : V2.cell? ⟨B, 2, none⟩ = some d := cell_n x1 2 rfl;  clear hb hi x1)
    | (go_at_call 29; with_reducible refine (HI.out _ (Hx.out _ H2.out).2.2).2.2.mono ?_; rintro e V3 ⟨v3, rfl, hi, hb⟩; obtain ⟨ao3, cp3, rfl⟩ := hi.len; have H3 := Lib.hid (H2.out.trans (hb.mono H2.out.size)); have Hi3 := Lib.hid (hi.base H2.out.size); have Hk1 := Lib.hid (Hj1.out.up (Up.ofBelow hb) (Nat.le_refl _)); have Hk2 := Lib.hid (Hi2.out.up (Up.ofBelow hb) (Nat.le_refl _)); have x1 := (Hx.out _ H3.out).1; have c0 : V3.cell? ⟨B, 0, none⟩ = some a := cell_n x1 0 rfl; have c1 : V3.cell? ⟨B, 1, none⟩ = some b := cell_n x1 1 rfl; have c2 : V3.cell? ⟨B, 2, none⟩ = some d := cell_n x1 2 rfl; have x2 := setAll_other (b := B + 1) x1 (by omega) [.slice ao1 c.v.length cp1, .slice ao2 c.n.length cp2, .slice ao3 c.l.length cp3]; have hset : (setAll V3 (B + 1) [.slice ao1 c.v.length cp1, .slice ao2 c.n.length cp2, .slice ao3 c.l.length cp3]).cell? ⟨B, 0, none⟩ = some a ∧ (setAll V3 (B + 1) [.slice ao1 c.v.length cp1, .slice ao2 c.n.length cp2, .slice ao3 c.l.length cp3]).cell? ⟨B, 1, none⟩ = some b ∧ (setAll V3 (B + 1) [.slice ao1 c.v.length cp1, .slice ao2 c.n.length cp2, .slice ao3 c.l.length cp3]).cell? ⟨B, 2, none⟩ = some d := ⟨cell_n x2 0 rfl, cell_n x2 1 rfl, cell_n x2 2 rfl⟩; have y1 := (Hx.out _ H3.out).2.1; have q0 : V3.cell? ⟨B + 1, 0, none⟩ = some (.slice none 0 0) := cell_n y1 0 rfl; have q1 : V3.cell? ⟨B + 1, 1, none⟩ = some (.slice none 0 0) := cell_n y1 1 rfl; have q2 : V3.cell? ⟨B + 1, 2, none⟩ = some (.slice none 0 0) := cell_n y1 2 rfl; have f0 := free_n y1 0; have f1 := free_n y1 1; have f2 := free_n y1 2; clear x2 y1; clear hb hi x1))
  clear q0 q1 q2 f0 f1 f2
  have hq := setAll_at (Hx.out _ H3.out).2.1 [.slice ao1 c.v.length cp1, .slice ao2 c.n.length cp2, .slice ao3 c.l.length cp3] rfl
  have hbq := setAll_below (Hx.out _ H3.out).2.2 (Nat.le_succ B) [.slice ao1 c.v.length cp1, .slice ao2 c.n.length cp2, .slice ao3 c.l.length cp3]
  have hu := Up.setAll W.heap.size V3 Hws.out [.slice ao1 c.v.length cp1, .slice ao2 c.n.length cp2, .slice ao3 c.l.length cp3]
  have hcf : Config3F W.heap.size (setAll V3 (B + 1) [.slice ao1 c.v.length cp1, .slice ao2 c.n.length cp2, .slice ao3 c.l.length cp3]) _ _ _ c := ⟨Hk1.out.up hu (Nat.le_refl _), Hk2.out.up hu (Nat.le_refl _), Hi3.out.up hu (Nat.le_refl _)⟩
  have Hq := Lib.hid hq
  have Hbq := Lib.hid hbq
  have Hcf := Lib.hid hcf
  clear hq hbq hu hcf hset c0 c1 c2
  go_wp2_with fail
  change bodyPost _ _ _ Exit.ret _ (setAll V3 (B + 1) [.slice ao1 c.v.length cp1, .slice ao2 c.n.length cp2, .slice ao3 c.l.length cp3])
  generalize setAll V3 (B + 1) [.slice ao1 c.v.length cp1, .slice ao2 c.n.length cp2, .slice ao3 c.l.length cp3] = W5 at Hq Hbq Hcf ⊢
  have e0 : W5.cell? ⟨B + 1, 0, none⟩ = some _ := cell_n Hq.out 0 rfl
  have e1 : W5.cell? ⟨B + 1, 1, none⟩ = some _ := cell_n Hq.out 1 rfl
  have e2 : W5.cell? ⟨B + 1, 2, none⟩ = some _ := cell_n Hq.out 2 rfl
  refine bodyPost_ret (by simp [results, Tryz.results7, go_sem, e0, e1, e2]; rfl) rfl ?_
  rw [← HP.out]
  exact ⟨_, _, _, rfl, Hcf.out.base (by have := Hws.out; have := hB.out; omega), by rw [hB.out]; exact Hbq.out⟩
end Go.Proofs.YtjlhlmnoomiblaaGreat
