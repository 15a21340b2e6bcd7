/-
  Reading entries and configurations, the document's way: all bytes.
-/
import Derived.Test.YtjlhlmnoomiblaaGreatZ24
import Derived.Test.YtjlhlmnoomiblaaGreatZ23
import Derived.Test.YtjlhlmnoomiblaaGreatZ13
import Derived.Test.YtjlhlmnoomiblaaGreatZ18
namespace Go.Proofs.YtjlhlmnoomiblaaGreat
open Go.RowKit Wm Mm
set_option linter.unusedVariables false

set_option maxHeartbeats 4000000 in
theorem ref_getEntry (s : List UInt8) (w : World) (hs : s.length ≤ 9223372036854775807) :
    Calls Tryz.prog 66 #[str s] w (GotEnt w (closeS (entS (.ok s)).1 (entS (.ok s)).2)) := by
  obtain ⟨V0, hV⟩ := hide ((w.alloc (.cells #[.int .i64 0, .int .i64 0, .int .i64 0, str []] 78)).alloc (.cells #[str s, .int .i64 0] 112))
  have hc0 : V0.heap[w.heap.size]? = some (.cells #[.int .i64 0, .int .i64 0, .int .i64 0, str []] 78 (0, 0)) := by rw [← hV.out]; exact (hp_past _ _ (by simp only [World.size_alloc]; omega)).trans (hp_at _ _ rfl)
  have hr0 : Rs V0 (w.heap.size + 1) (.ok s) := by rw [← hV.out]; exact ⟨hp_at _ _ (by simp only [World.size_alloc]), hs⟩
  have hb0 : Below w.heap.size w V0 := by rw [← hV.out]; exact ((Below.refl _ _).alloc (Nat.le_refl _) _).alloc (by simp) _
  have HM := entry_rs hr0
  obtain ⟨F, hF⟩ := hide (entS (.ok s))
  rw [hF.out] at HM ⊢
  obtain ⟨q, σ⟩ := F
  simp only [] at HM ⊢
  have HM := Lib.hid HM
  have Hc0 := Lib.hid hc0
  have Hr0 := Lib.hid hr0
  have Hb0 := Lib.hid hb0
  obtain ⟨post, HP⟩ := hide (GotEnt w (closeS q σ))
  rw [HP.out]
  obtain ⟨B, hB⟩ := hide w.heap.size
  have Hs0 : Hid (B + 1 < V0.heap.size) := by rw [← hB.out]; exact Rs.lt hr0
  rw [hB.out] at HM Hc0 Hr0 Hb0
  clear hc0 hr0 hb0
  go_enter Tryz.func66, Tryz.ntmps66
  go_wp2_with fail
  rw [hV.out, hB.out]
  refine HM.out.mono ?_
  rintro e v1 ⟨rfl, hr1, hg1⟩
  have hc1 := (hg1.block _ (lt_of_block Hc0.out) (by simp)).trans Hc0.out
  have hb1 : Below B w v1 := Hb0.out.trans ⟨hg1.os, hg1.tape, hg1.output, hg1.size, fun k hk => hg1.block k (by have := Hs0.out; omega) (by simp; omega)⟩
  obtain ⟨V2, hV2⟩ := hide (v1.alloc (.cells #[.int .i64 q.index, .int .i64 q.term, .int .i64 q.kind, str q.data] 78))
  have hq2 : V2.heap[v1.heap.size]? = some (.cells #[.int .i64 q.index, .int .i64 q.term, .int .i64 q.kind, str q.data] 78 (0, 0)) := by rw [← hV2.out]; exact hp_at _ _ rfl
  have hc2 : V2.heap[B]? = some (.cells #[.int .i64 0, .int .i64 0, .int .i64 0, str []] 78 (0, 0)) := by rw [← hV2.out]; exact (hp_past _ _ (by have := lt_of_block hc1; omega)).trans hc1
  have hr2 : Rs V2 (B + 1) σ := by rw [← hV2.out]; exact hr1.kept (World.grownBy_alloc v1 _ none) (by simp)
  have hb2 : Below B w V2 := by rw [← hV2.out]; exact hb1.alloc (by have := lt_of_block hc1; omega) _
  have Hs1 : Hid (B + 1 < v1.heap.size) := Nat.lt_of_lt_of_le Hs0.out hg1.size
  have Hq2 := Lib.hid hq2
  have Hc2 := Lib.hid hc2
  have Hr2 := Lib.hid hr2
  have Hb2 := Lib.hid hb2
  clear hc1 hb1 hq2 hc2 hr2 hb2 hr1 hg1
  go_upto_region 3 with fail
  rw [hV2.out]
  obtain ⟨Q, hQ⟩ := hide v1.heap.size
  rw [hQ.out] at Hq2 Hs1 ⊢
  go_wp2_with fail
  obtain ⟨z, hz9⟩ := hide (endS σ)
  refine (end_rs Hr2.out).mono ?_
  rw [hz9.out]
  rintro e v9 ⟨rfl, hg⟩
  have hq9 := (hg.block _ (lt_of_block Hq2.out) (by have := Hs1.out; simp; omega)).trans Hq2.out
  have hc9 := (hg.block _ (lt_of_block Hc2.out) (by simp)).trans Hc2.out
  have hb9 : Below B w v9 := Hb2.out.trans ⟨hg.os, hg.tape, hg.output, hg.size, fun k hk => hg.block k (by have := Hs0.out; have := lt_of_block Hc2.out; omega) (by simp; omega)⟩
  have Hq9 := Lib.hid hq9
  have Hc9 := Lib.hid hc9
  have Hb9 := Lib.hid hb9
  clear hg hq9 hc9 hb9
  have q0 := cell_n Hq9.out 0 (v := .int .i64 q.index) rfl
  have q1 := cell_n Hq9.out 1 (v := .int .i64 q.term) rfl
  have q2 := cell_n Hq9.out 2 (v := .int .i64 q.kind) rfl
  have q3 := cell_n Hq9.out 3 (v := str q.data) rfl
  have c0 := cell_n Hc9.out 0 (v := .int .i64 0) rfl
  have f0 := free_n Hc9.out 0
  have c1 := cell_n Hc9.out 1 (v := .int .i64 0) rfl
  have f1 := free_n Hc9.out 1
  have c2 := cell_n Hc9.out 2 (v := .int .i64 0) rfl
  have f2 := free_n Hc9.out 2
  have c3 := cell_n Hc9.out 3 (v := str []) rfl
  have f3 := free_n Hc9.out 3
  by_cases h9 : z = 0
  · have hcl : closeS q σ = .ok q := by simp only [closeS]; rw [hz9.out, h9]; rfl
    subst h9
    have HE := Lib.hid (setAll_at Hc9.out [.int .i64 q.index, .int .i64 q.term, .int .i64 q.kind, str q.data] rfl)
    have HB := Lib.hid (setAll_below Hb9.out (Nat.le_refl _) [.int .i64 q.index, .int .i64 q.term, .int .i64 q.kind, str q.data])
    have HCL := Lib.hid hcl
    clear hcl
    go_wp2_with fail
    change bodyPost _ _ _ Exit.ret _ (setAll v9 B [.int .i64 q.index, .int .i64 q.term, .int .i64 q.kind, str q.data])
    generalize setAll v9 B [.int .i64 q.index, .int .i64 q.term, .int .i64 q.kind, str q.data] = W5 at HE HB ⊢
    clear c0 f0 c1 f1 c2 f2 c3 f3
    have c0 := cell_n HE.out 0 (v := .int .i64 q.index) rfl
    have c1 := cell_n HE.out 1 (v := .int .i64 q.term) rfl
    have c2 := cell_n HE.out 2 (v := .int .i64 q.kind) rfl
    have c3 := cell_n HE.out 3 (v := str q.data) rfl
    refine bodyPost_ret (by simp [results, Tryz.results66, go_sem, c0, c1, c2, c3]; rfl) rfl ?_
    rw [← HP.out, HCL.out]
    exact ⟨rfl, by rw [hB.out]; exact HB.out⟩
  · have hcl : closeS q σ = .error z := by simp only [closeS]; rw [hz9.out]; split <;> first | rfl | (exfalso; exact h9 rfl)
    have u0 : (z == 0) = false := beq_eq_false_iff_ne.2 h9
    have u1 : (z != 0) = true := bne_iff_ne.2 h9
    clear h9
    have HE := Lib.hid (setAll_at Hc9.out [.int .i64 0, .int .i64 0, .int .i64 0, str []] rfl)
    have HB := Lib.hid (setAll_below Hb9.out (Nat.le_refl _) [.int .i64 0, .int .i64 0, .int .i64 0, str []])
    have HCL := Lib.hid hcl
    clear hcl
    go_wp2_with fail
    change bodyPost _ _ _ Exit.ret _ (setAll v9 B [.int .i64 0, .int .i64 0, .int .i64 0, str []])
    generalize setAll v9 B [.int .i64 0, .int .i64 0, .int .i64 0, str []] = W5 at HE HB ⊢
    clear c0 f0 c1 f1 c2 f2 c3 f3
    have c0 := cell_n HE.out 0 (v := .int .i64 0) rfl
    have c1 := cell_n HE.out 1 (v := .int .i64 0) rfl
    have c2 := cell_n HE.out 2 (v := .int .i64 0) rfl
    have c3 := cell_n HE.out 3 (v := str []) rfl
    refine bodyPost_ret (by simp [results, Tryz.results66, go_sem, c0, c1, c2, c3]; rfl) rfl ?_
    rw [← HP.out, HCL.out]
    exact ⟨rfl, by rw [hB.out]; exact HB.out⟩

end Go.Proofs.YtjlhlmnoomiblaaGreat
