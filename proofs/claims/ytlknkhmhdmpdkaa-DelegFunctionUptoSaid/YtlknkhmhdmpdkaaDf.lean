/-
  Bounds of keys: equal neighbours fall out, in place.
-/
import Derived.Test.YtlknkhmhdmpdkaaDe
import Derived.Test.YtlknkhmhdmpdkaaCl
namespace Go.Proofs.Ytlknkhmhdmpdkaa
open Go.RowKit Wm Mm Dg
set_option linter.unusedVariables false
set_option linter.unusedSimpArgs false

theorem zero_bnd (w : World) : (zeroValue 36).run Try.prog w = .ok (.agg #[.string ByteArray.empty, .int .i64 0]) w := by kernel_rfl

theorem flat_set2 : ∀ (l : List BoundP) (k : Nat) (y : BoundP), k < l.length → ((l.flatMap rowB).set (k * 2) (str y.frm)).set (k * 2 + 1) (.int .i64 y.host) = (l.set k y).flatMap rowB
  | a :: r, 0, y, _ => rfl
  | a :: r, k + 1, y, h => by
    have ih := flat_set2 r k y (by simpa using h)
    rw [List.set_cons_succ, List.flatMap_cons, List.flatMap_cons, ← ih, show (k + 1) * 2 = k * 2 + 1 + 1 from by omega]
    rfl
theorem own_set2 {w : World} {S n g cap : Nat} {l : List BoundP} (h : w.ownsRow S 36 2 (.slice (some ⟨g, 0, none⟩) n cap) n (l.flatMap rowB)) {k : Nat} (hk : k < l.length) (y : BoundP) :
    ((w.setCell ⟨g, k * 2, none⟩ (str y.frm)).setCell ⟨g, k * 2 + 1, none⟩ (.int .i64 y.host)).ownsRow S 36 2 (.slice (some ⟨g, 0, none⟩) n cap) n ((l.set k y).flatMap rowB) := by
  rw [← flat_set2 l k y hk]
  exact own_put (own_put h _ _) _ _
theorem own_two {w : World} {S n g cap : Nat} {l : List BoundP} (h : w.ownsRow S 36 2 (.slice (some ⟨g, 0, none⟩) n cap) n (l.flatMap rowB)) {k : Nat} (hk : k < l.length) :
    w.cell? ⟨g, k * 2, none⟩ = some (str l[k].frm) ∧ w.cell? ⟨g, k * 2 + 1, none⟩ = some (.int .i64 l[k].host) := by
  have hg : ∀ (l : List BoundP) (k : Nat) (hk : k < l.length), (l.flatMap rowB)[k * 2]? = some (str l[k].frm) ∧ (l.flatMap rowB)[k * 2 + 1]? = some (.int .i64 l[k].host) := by
    intro l
    induction l with
    | nil => intro k hk; simp at hk
    | cons a r ih =>
      intro k hk
      cases k with
      | zero => exact ⟨rfl, rfl⟩
      | succ k =>
        have := ih k (by simpa using hk)
        rw [List.flatMap_cons, show (k + 1) * 2 = k * 2 + 1 + 1 from by omega]
        exact this
  exact ⟨own_cell h (hg l k hk).1, own_cell h (hg l k hk).2⟩

theorem compact_take {l : List BoundP} {m : Nat} (h : m < l.length) : compactP (l.take (m + 1)) = keepIf (compactP (l.take m)) l[m] := by
  have e : l.take (m + 1) = l.take m ++ [l[m]] := by rw [List.take_add_one, List.getElem?_eq_getElem h]; rfl
  unfold compactP
  rw [e, List.foldl_append]
  rfl
theorem compact_last {l : List BoundP} {m : Nat} (h : m < l.length) : (compactP (l.take (m + 1))).getLast?.map BoundP.host = some l[m].host := by
  rw [compact_take h]
  exact keepIf_last _ _
theorem compact_next {l : List BoundP} {m : Nat} (h : m + 1 < l.length) : compactP (l.take (m + 2)) = if l[m + 1].host = (l[m]'(by omega)).host then compactP (l.take (m + 1)) else compactP (l.take (m + 1)) ++ [l[m + 1]] := by
  rw [compact_take h]
  have := compact_last (l := l) (m := m) (by omega)
  unfold keepIf
  rw [this]
  by_cases e : l[m + 1].host = (l[m]'(by omega)).host
  · rw [if_pos (by rw [e]), if_pos e]
  · rw [if_neg (fun k => e (Option.some.inj k).symm), if_neg e]
theorem drew_below {w V : World} (h : Below w.drew.heap.size w.drew V) : Below w.heap.size w V := ((Below.refl w.heap.size w).drew).trans h
theorem flat_take2 : ∀ (l : List BoundP) (k : Nat), (l.flatMap rowB).take (k * 2) = (l.take k).flatMap rowB
  | _, 0 => by simp
  | [], k + 1 => by simp
  | a :: r, k + 1 => by
    rw [List.flatMap_cons, show (k + 1) * 2 = k * 2 + 1 + 1 from by omega, List.take_succ_cons, List.flatMap_cons, ← flat_take2 r k]
    rfl
theorem compact_nextk {l : List BoundP} {k : Nat} (h : k < l.length) (h1 : 1 ≤ k) : compactP (l.take (k + 1)) = if l[k].host = (l[k - 1]'(by omega)).host then compactP (l.take k) else compactP (l.take k) ++ [l[k]] := by
  obtain ⟨m, rfl⟩ : ∃ m, k = m + 1 := ⟨k - 1, by omega⟩
  exact compact_next h
theorem compact_one {l : List BoundP} (h : 0 < l.length) : compactP (l.take 1) = l.take 1 := by
  rw [compact_take h]
  have e : l.take 1 = [l[0]] := by rw [List.take_add_one, List.getElem?_eq_getElem h]; rfl
  rw [e]
  rfl

set_option maxHeartbeats 1000000 in
theorem eq_cmp (a b : BoundP) (w : World) : Calls Try.prog 107 #[.agg #[str a.frm, .int .i64 a.host], .agg #[str b.frm, .int .i64 b.host]] w fun e w' => e = .returned (.bool (a.host == b.host)) ∧ Below w.heap.size w w' := by
  obtain ⟨V, hV⟩ := hide ((w.alloc (.cells #[str a.frm, .int .i64 a.host] 36)).alloc (.cells #[str b.frm, .int .i64 b.host] 36))
  obtain ⟨B, hB⟩ := hide w.heap.size
  have h1 : V.heap[B]? = some (.cells #[str a.frm, .int .i64 a.host] 36 (0, 0)) := by rw [← hV.out, ← hB.out]; exact (hp_past _ _ (by simp)).trans (hp_at _ _ rfl)
  have h2 : V.heap[B + 1]? = some (.cells #[str b.frm, .int .i64 b.host] 36 (0, 0)) := by rw [← hV.out, ← hB.out]; exact hp_at _ _ (by simp)
  have c1 := cell_n h1 1 (v := .int .i64 a.host) rfl
  have c2 := cell_n h2 1 (v := .int .i64 b.host) rfl
  have hb : Hid (Below w.heap.size w V) := by show Below _ _ _; rw [← hV.out]; exact ((Below.refl _ _).alloc (Nat.le_refl _) _).alloc (by simp) _
  clear h1 h2
  go_enter Try.func107, Try.ntmps107
  go_upto_region 1 with fail
  rw [hV.out, hB.out]
  go_wp2_with fail
  go_ret
  exact ⟨rfl, hb.out⟩

set_option maxHeartbeats 4000000 in
set_option maxRecDepth 100000 in
theorem compact_law (S : Nat) (v : Value) (l : List BoundP) (w : World) (h : OwnB S w v l) (hS : S ≤ w.heap.size) (hn : l.length ≤ 5864062014700) :
    Calls Try.prog 106 #[v, .func (.func 107) #[] #[]] w fun e w' => ∃ v', e = .returned v' ∧ OwnB S w' v' (compactP l) ∧ Below S w w' := by
  obtain ⟨post, HP⟩ := hide (fun (e : Ending) (w' : World) => ∃ v', e = .returned v' ∧ OwnB S w' v' (compactP l) ∧ Below S w w')
  rw [HP.out]
  obtain ⟨ao, cap, rfl⟩ := owns_slice h
  obtain ⟨n, hnn⟩ : ∃ n, n = l.length := ⟨_, rfl⟩
  have Ho : Hid (w.ownsRow S 36 2 (.slice ao n cap) n (l.flatMap rowB)) := by show w.ownsRow _ _ _ _ _ _; rw [hnn]; exact h
  rw [← hnn] at hn ⊢
  have KC := Lib.hid eq_cmp
  have HSz := Lib.hid hS
  have Hnn := Lib.hid hnn
  clear h hS hnn
  have hm : n ≤ 9223372036854775807 := by omega
  go_enter Try.func106, Try.ntmps106
  by_cases h2 : n < 2
  · have hc : compactP l = l := by
      have := Hnn.out
      rcases Nat.lt_or_ge 0 l.length with h0 | h0
      · have h1 : l.length = 1 := by omega
        have h3 := compact_one h0
        rw [← h1, List.take_length] at h3
        exact h3
      · have : l = [] := List.length_eq_zero_iff.1 (by omega)
        subst this
        rfl
    have HC := Lib.hid hc
    clear hc
    go_wp2_with fail
    rw [← HP.out]
    refine ⟨_, rfl, ?_, Below.refl _ _⟩
    rw [HC.out]
    have := Ho.out
    rw [Hnn.out] at this ⊢
    exact this
  · obtain ⟨g, hao⟩ : ∃ g, ao = some ⟨g, 0, none⟩ := by
      rcases Ho.out.2 with ⟨hv, h0⟩ | ⟨g', cap', cur, hv, _⟩
      · omega
      · injection hv with e1; exact ⟨g', e1⟩
    subst hao
    obtain ⟨hnc, hcm, hSg, hgw⟩ := own_lt Ho.out
    have HSg := Lib.hid hSg
    clear hSg hgw
    go_wp2_with fail
    go_loopw [5] (fun i wr => ∃ k : Nat, i = .int .i64 k ∧ 1 ≤ k ∧ k ≤ n ∧ Hid (compactP (l.take k) = l.take k) ∧ Hid (wr.ownsRow S 36 2 (.slice (some ⟨g, 0, none⟩) n cap) n (l.flatMap rowB)) ∧ Hid (Below S w wr)) (fun i _ => n - (intOf i).toNat)
    case atStart => exact ⟨1, rfl, Nat.le_refl _, by omega, compact_one (by have := Hnn.out; omega), Ho, Below.refl _ _⟩
    case round =>
      obtain ⟨k, rfl, h1k, hkn, hck, ho, hb⟩ := hrel
      by_cases hlt : k < n
      · have hkl : k < l.length := by have := Hnn.out; omega
        have hjl : k - 1 < l.length := by omega
        obtain ⟨c0, c1⟩ := own_two ho.out hkl
        obtain ⟨d0, d1⟩ := own_two ho.out hjl
        have hcn := compact_nextk hkl h1k
        have htk : l.take (k + 1) = l.take k ++ [l[k]] := by rw [List.take_add_one, List.getElem?_eq_getElem hkl]; rfl
        obtain ⟨x, hx⟩ := hide l[k]
        obtain ⟨y, hy⟩ := hide l[k - 1]
        rw [hx.out] at c0 c1 hcn htk
        rw [hy.out] at d0 d1 hcn
        have KC2 := Lib.hid (KC.out x y)
        have hw : IntKind.i64.wrap ((k : Int) - 1) = ((k - 1 : Nat) : Int) := by rw [IntWalk.i64_in _ (by omega)]; omega
        have Hcn := Lib.hid hcn
        have Htk := Lib.hid htk
        clear hcn htk
        cases hxy : (x.host == y.host)
        · rw [hxy] at KC2
          have HK : Hid (compactP (l.take (k + 1)) = l.take (k + 1)) := by
            show _ = _
            rw [Hcn.out, if_neg (by simpa using hxy), hck.out, Htk.out]
          clear hxy
          go_upto_region 6 with fail
          go_region_with (first
            | (go_at_call 107; refine (KC2.out _).mono ?_; rintro e V ⟨rfl, hbV⟩; have HbV := Lib.hid hbV; clear hbV))
          all_goals
            have HoV := Lib.hid (own_below ho.out (drew_below HbV.out))
            have HbV2 : Hid (Below S w V) := hb.out.trans (Below.mono (drew_below HbV.out) (Nat.le_trans HSz.out hb.out.size))
            go_wp2_with fail
            go_roundw
            case rel => exact ⟨k + 1, by go_num, by omega, by omega, HK, HoV, HbV2⟩
            case measure => simp [intOf]; omega
        · rw [hxy] at KC2
          have HK : Hid (l.take k = compactP (l.take (k + 1))) := by
            show _ = _
            rw [Hcn.out, if_pos (by simpa using hxy), hck.out]
          clear hxy
          go_upto_region 6 with fail
          go_cut [5, 28] (fun s5 s28 wx => s5 = .int .i64 k ∧ s28 = .bool true ∧ Hid (wx.ownsRow S 36 2 (.slice (some ⟨g, 0, none⟩) n cap) n (l.flatMap rowB)) ∧ Hid (Below S w wx))
          case first =>
            go_region_with (first
              | (go_at_call 107; refine (KC2.out _).mono ?_; rintro e V ⟨rfl, hbV⟩; have HbV := Lib.hid hbV; clear hbV))
            all_goals
              have HoV := Lib.hid (own_below ho.out (drew_below HbV.out))
              have HbV2 : Hid (Below S w V) := hb.out.trans (Below.mono (drew_below HbV.out) (Nat.le_trans HSz.out hb.out.size))
              go_wp2_with fail
              go_meet
              exact ⟨rfl, rfl, HoV, HbV2⟩
          case rest =>
            obtain ⟨rfl, rfl, hoc, hbc⟩ := hcut
            clear c0 c1 d0 d1
            have hcapk : ¬ cap = k := by omega
            have q1 : (k : Int) ≤ (n : Int) := by omega
            go_wp2_with fail
            go_loopw [5, 7] (fun s5 s7 wr2 => ∃ (kk k2 : Nat) (cur : List BoundP), s5 = .int .i64 kk ∧ s7 = .int .i64 k2 ∧ 1 ≤ k2 ∧ k + k2 ≤ n ∧ kk < k + k2 ∧ Hid (cur.length = n) ∧ Hid (wr2.ownsRow S 36 2 (.slice (some ⟨g, 0, none⟩) n cap) n (cur.flatMap rowB)) ∧ Hid (Below S w wr2) ∧ Hid (∀ j, k + k2 - 1 ≤ j → cur[j]? = l[j]?) ∧ Hid (cur.take kk = compactP (l.take (k + k2)))) (fun _ s7 _ => n - (intOf s7).toNat)
            case atStart => exact ⟨k, 1, l, rfl, rfl, Nat.le_refl _, by omega, by omega, Hnn.out.symm, hoc, hbc, fun _ _ => rfl, HK⟩
            case round =>
              obtain ⟨kk, k2, cur, rfl, rfl, h12, hk2n, hkk, hcl, ho2, hb2, hcu, hct⟩ := hrel
              by_cases hlt2 : k + k2 < n
              · have hml : k + k2 < l.length := by have := Hnn.out; omega
                have hmc : k + k2 < cur.length := by have := hcl.out; omega
                have hjc : k + k2 - 1 < cur.length := by omega
                have hkc : kk < cur.length := by omega
                have ex : cur[k + k2] = l[k + k2] := by
                  have := hcu.out (k + k2) (by omega)
                  rw [List.getElem?_eq_getElem hmc, List.getElem?_eq_getElem hml] at this
                  exact Option.some.inj this
                have ey : cur[k + k2 - 1] = l[k + k2 - 1] := by
                  have := hcu.out (k + k2 - 1) (by omega)
                  rw [List.getElem?_eq_getElem hjc, List.getElem?_eq_getElem (by omega)] at this
                  exact Option.some.inj this
                have hcn := compact_nextk hml (by omega : 1 ≤ k + k2)
                rw [← ex, ← ey] at hcn
                have hcell : Hid (∀ V : World, V.ownsRow S 36 2 (.slice (some ⟨g, 0, none⟩) n cap) n (cur.flatMap rowB) → (V.cell? ⟨g, k * 2 + k2 * 2, none⟩ = some (str cur[k + k2].frm) ∧ V.cell? ⟨g, k * 2 + k2 * 2 + 1, none⟩ = some (.int .i64 cur[k + k2].host)) ∧ (V.cell? ⟨g, k * 2 + (k2 - 1) * 2, none⟩ = some (str cur[k + k2 - 1].frm) ∧ V.cell? ⟨g, k * 2 + (k2 - 1) * 2 + 1, none⟩ = some (.int .i64 cur[k + k2 - 1].host))) := by
                  intro V hV
                  have a1 := own_two hV hmc
                  have a2 := own_two hV hjc
                  rw [show (k + k2) * 2 = k * 2 + k2 * 2 from by omega] at a1
                  rw [show (k + k2 - 1) * 2 = k * 2 + (k2 - 1) * 2 from by omega] at a2
                  exact ⟨a1, a2⟩
                obtain ⟨x, hx⟩ := hide cur[k + k2]
                obtain ⟨y, hy⟩ := hide cur[k + k2 - 1]
                rw [hx.out, hy.out] at hcell hcn
                obtain ⟨⟨c0, c1⟩, ⟨d0, d1⟩⟩ := hcell.out _ ho2.out
                have KC3 := Lib.hid (KC.out x y)
                have hw2 : IntKind.i64.wrap ((k2 : Int) - 1) = ((k2 - 1 : Nat) : Int) := by rw [IntWalk.i64_in _ (by omega)]; omega
                have hi1 : k2 < n - k := by omega
                have hi2 : k2 - 1 < n - k := by omega
                have Hex : Hid (l[k + k2]? = some x) := by show _ = _; rw [List.getElem?_eq_getElem hml, ← ex, hx.out]
                have Hcn := Lib.hid hcn
                clear ex ey hcn
                cases hxy : (x.host == y.host)
                · rw [hxy] at KC3
                  have HK2 : Hid ((cur.set kk x).take (kk + 1) = compactP (l.take (k + (k2 + 1)))) := by
                    show _ = _
                    rw [show k + (k2 + 1) = k + k2 + 1 from by omega, Hcn.out, if_neg (by simpa using hxy), ← hct.out, List.take_add_one, List.getElem?_set_self hkc, List.take_set_of_le (Nat.le_refl _)]
                    rfl
                  have HC2 : Hid (∀ j, k + (k2 + 1) - 1 ≤ j → (cur.set kk x)[j]? = l[j]?) := fun j hj => by
                    rw [List.getElem?_set_ne (by omega)]
                    exact hcu.out j (by omega)
                  have HL2 : Hid ((cur.set kk x).length = n) := by show _ = _; rw [List.length_set]; exact hcl.out
                  clear hxy
                  go_upto_region 11 with fail
                  go_cut [5, 7, 49] (fun s5 s7 s49 wx => s5 = .int .i64 kk ∧ s7 = .int .i64 k2 ∧ s49 = .bool true ∧ Hid (wx.ownsRow S 36 2 (.slice (some ⟨g, 0, none⟩) n cap) n (cur.flatMap rowB)) ∧ Hid (Below S w wx))
                  case first =>
                    go_region_with (first
                      | (go_at_call 107; refine (KC3.out _).mono ?_; rintro e V ⟨rfl, hbV⟩; have HbV := Lib.hid hbV; clear hbV))
                    all_goals
                      have HoV := Lib.hid (own_below ho2.out (drew_below HbV.out))
                      have HbV2 : Hid (Below S w V) := hb2.out.trans (Below.mono (drew_below HbV.out) (Nat.le_trans HSz.out hb2.out.size))
                      go_wp2_with fail
                      go_meet
                      exact ⟨rfl, rfl, rfl, HoV, HbV2⟩
                  case rest =>
                    obtain ⟨rfl, rfl, rfl, hoV, hbV⟩ := hcut
                    clear c0 c1 d0 d1
                    obtain ⟨⟨c0, c1⟩, _⟩ := hcell.out _ hoV.out
                    obtain ⟨u0, u1⟩ := own_two hoV.out hkc
                    have f0 := own_free hoV.out (kk * 2)
                    have f1 := own_free hoV.out (kk * 2 + 1)
                    obtain ⟨z, hz⟩ := hide cur[kk]
                    rw [hz.out] at u0 u1
                    have HoS := Lib.hid (own_set2 hoV.out hkc x)
                    have HbS : Hid (Below S w ((wc.setCell ⟨g, kk * 2, none⟩ (str x.frm)).setCell ⟨g, kk * 2 + 1, none⟩ (.int .i64 x.host))) := (hbV.out.setCell (p := ⟨g, kk * 2, none⟩) HSg.out _).setCell (p := ⟨g, kk * 2 + 1, none⟩) HSg.out _
                    have hi3 : kk < n := by omega
                    go_wp2_with fail
                    go_roundw
                    case rel => exact ⟨kk + 1, k2 + 1, cur.set kk x, by go_num, by go_num, by omega, by omega, by omega, HL2, HoS, HbS, HC2, HK2⟩
                    case measure => simp [intOf]; omega
                · rw [hxy] at KC3
                  have HK2 : Hid (cur.take kk = compactP (l.take (k + (k2 + 1)))) := by
                    show _ = _
                    rw [show k + (k2 + 1) = k + k2 + 1 from by omega, Hcn.out, if_pos (by simpa using hxy), hct.out]
                  have HC2 : Hid (∀ j, k + (k2 + 1) - 1 ≤ j → cur[j]? = l[j]?) := fun j hj => hcu.out j (by omega)
                  clear hxy
                  go_upto_region 11 with fail
                  go_region_with (first
                    | (go_at_call 107; refine (KC3.out _).mono ?_; rintro e V ⟨rfl, hbV⟩; have HbV := Lib.hid hbV; clear hbV))
                  all_goals
                    have HoV := Lib.hid (own_below ho2.out (drew_below HbV.out))
                    have HbV2 : Hid (Below S w V) := hb2.out.trans (Below.mono (drew_below HbV.out) (Nat.le_trans HSz.out hb2.out.size))
                    go_wp2_with fail
                    go_roundw
                    case rel => exact ⟨kk, k2 + 1, cur, rfl, by go_num, by omega, by omega, by omega, hcl, HoV, HbV2, HC2, HK2⟩
                    case measure => simp [intOf]; omega
              · have hend : k + k2 = n := by omega
                have hnl : l.take (k + k2) = l := by rw [hend, Hnn.out, List.take_length]
                have HK2 : Hid (cur.take kk = compactP l) := by show _ = _; rw [hct.out, hnl]
                have hkn2 : kk < n := by omega
                obtain ⟨w3, hcr, ho3, hb3⟩ := own_clear (P := Try.prog) (t := 32) ho2.out Try.underlying32 zero_bnd rfl (by intro u hu; simp [Value.cells] at hu; rcases hu with rfl | rfl <;> rfl) hkn2 (Nat.le_trans HSz.out hb2.out.size) (cap - kk)
                have HkL : Hid ((compactP l).length = kk) := by
                  show _ = _
                  rw [← HK2.out, List.length_take, hcl.out]
                  omega
                have Ho3 : Hid (OwnB S w3 (.slice (some ⟨g, 0, none⟩) kk cap) (compactP l)) := by
                  show w3.ownsRow _ _ _ _ _ _
                  rw [HkL.out, ← HK2.out, ← flat_take2]
                  exact ho3
                have Hb3 : Hid (Below S w w3) := hb2.out.trans hb3
                have hck2 : ¬ cap = kk := by omega
                have q3 : (kk : Int) ≤ (n : Int) := by omega
                have q4 : (kk : Int) ≤ (cap : Int) := by omega
                have q5 : kk ≤ cap := by omega
                clear ho3 hb3 hend hnl
                go_wp2_with fail
                rw [← HP.out]
                exact ⟨_, rfl, Ho3.out, Hb3.out⟩
      · obtain rfl : k = n := by omega
        have HK : Hid (compactP l = l) := by
          show _ = _
          have := hck.out
          rw [Hnn.out, List.take_length] at this
          exact this
        go_wp2_with fail
        rw [← HP.out]
        refine ⟨_, rfl, ?_, hb.out⟩
        rw [HK.out]
        have := ho.out
        rw [Hnn.out] at this ⊢
        exact this
end Go.Proofs.Ytlknkhmhdmpdkaa
