/-
  Packets that are acknowledged: the closure that knows them, the search, what is left of a row, in place.
-/
import Derived.Test.YtckclacdmpcpbaaYb
namespace Go.Proofs.Ytckclacdmpcpbaa
open Go.RowKit Wm Mm Rl
set_option linter.unusedVariables false
set_option linter.unusedSimpArgs false

def pAck (n : Int) (s : Nat) (p : PktP) : Bool := decide (p.num ≤ n) && decide (n < (s : Int) + 1)
abbrev blkP (p : PktP) : Obj := .cells #[.int .i64 p.frm, .int .i64 p.to, .int .i64 p.num, .bool p.ack, str p.body] 34 (0, 0)
/-- the cell of a pointer to one of a relay's hosts -/
abbrev blkQ (B f : Nat) : Obj := .cells #[.pointer (some ⟨B, 1 + f * 3, none⟩)] 185 (0, 0)
set_option maxHeartbeats 1000000 in
theorem ack_law (x p : PktP) (s X Q B f : Nat) (w : World) (hX : w.heap[X]? = some (blkP x)) (hQ : w.heap[Q]? = some (blkQ B f)) (hB : w.cell? ⟨B, 1 + f * 3, none⟩ = some (.int .i64 ((s : Int) + 1))) :
    Calls Try.prog 105 #[.agg #[.int .i64 p.frm, .int .i64 p.to, .int .i64 p.num, .bool p.ack, str p.body], .pointer (some ⟨X, 0, none⟩), .pointer (some ⟨Q, 0, none⟩)] w fun e w' => e = .returned (.bool (pAck x.num s p)) ∧ Below w.heap.size w w' := by
  obtain ⟨V, hV⟩ := hide (w.alloc (.cells #[.int .i64 p.frm, .int .i64 p.to, .int .i64 p.num, .bool p.ack, str p.body] 34))
  obtain ⟨C, hC⟩ := hide w.heap.size
  have h1 : V.heap[C]? = some (blkP p) := by rw [← hV.out, ← hC.out]; exact hp_at _ _ rfl
  have h2 : V.heap[X]? = some (blkP x) := by rw [← hV.out]; exact (hp_past _ _ (by have := lt_of_block hX; omega)).trans hX
  have h3 : V.heap[Q]? = some (blkQ B f) := by rw [← hV.out]; exact (hp_past _ _ (by have := lt_of_block hQ; omega)).trans hQ
  have h4 : V.cell? ⟨B, 1 + f * 3, none⟩ = some (.int .i64 ((s : Int) + 1)) := by
    have hlt := lt_of_cell hB
    rw [← hV.out]
    exact (World.cell?_of_block (hp_past w _ (by show B ≠ w.heap.size; simp at hlt; omega))).trans hB
  have c0 := cell_n h1 2 (v := .int .i64 p.num) rfl
  have c1 := cell_n h2 2 (v := .int .i64 x.num) rfl
  have c2 := cell_n h3 0 (v := .pointer (some ⟨B, 1 + f * 3, none⟩)) rfl
  have hb : Hid (Below w.heap.size w V) := by show Below _ _ _; rw [← hV.out]; exact (Below.refl _ _).alloc (Nat.le_refl _) _
  have hp : pAck x.num s p = (decide (p.num ≤ x.num) && decide (x.num < (s : Int) + 1)) := rfl
  clear hX hQ hB h1 h2 h3
  go_enter Try.func105, Try.ntmps105
  go_upto_region 1 with fail
  rw [hV.out, hC.out]
  cases e1 : decide (p.num ≤ x.num) <;> cases e2 : decide (x.num < (s : Int) + 1)
  all_goals
    rw [e1, e2] at hp
    have Hp := Lib.hid hp
    clear hp
    go_quiet (fail)
    go_wp2_with fail
    go_ret
    exact ⟨by rw [Hp.out] <;> rfl, by first | exact hb.out | exact hb.out.drewN _ | exact below_drewN hb.out _⟩

/-- the place of the first that is meant, or how many there are -/
structure FirstOf {α : Type} (p : α → Bool) (l : List α) (k : Nat) : Prop where
  le : k ≤ l.length
  lo : ∀ i (hi : i < l.length), i < k → p l[i] = false
  at_ : ∀ (hk : k < l.length), p l[k] = true
def placeOf {α : Type} (l : List α) (k : Nat) : Int := if k < l.length then (k : Int) else -1
theorem take_one {α : Type} (l : List α) {k : Nat} (h : k < l.length) : l.take (k + 1) = l.take k ++ [l[k]] := by rw [List.take_add_one, List.getElem?_eq_getElem h]; rfl
theorem keepOf {α : Type} (p : α → Bool) (l : List α) {k : Nat} (h : k < l.length) : (l.take (k + 1)).filter (fun f => !(p f)) = (l.take k).filter (fun f => !(p f)) ++ if p l[k] then [] else [l[k]] := by
  rw [take_one l h, List.filter_append]
  congr 1
  by_cases hp : p l[k] = true
  · rw [if_pos hp]; simp [hp]
  · rw [if_neg hp]; simp [hp]
theorem FirstOf.head {α : Type} {p : α → Bool} {l : List α} {k : Nat} (h : FirstOf p l k) : (l.take k).filter (fun f => !(p f)) = l.take k := List.filter_eq_self.2 (fun f hf => by
  obtain ⟨i, hi, rfl⟩ := List.getElem_of_mem hf
  rw [List.length_take] at hi
  rw [List.getElem_take, h.lo i (by omega) (by omega)]
  rfl)
theorem rowP_at : ∀ (l : List PktP) (k : Nat) (hk : k < l.length), (l.flatMap rowP)[k * 5]? = some (.int .i64 l[k].frm) ∧ (l.flatMap rowP)[k * 5 + 1]? = some (.int .i64 l[k].to) ∧ (l.flatMap rowP)[k * 5 + 2]? = some (.int .i64 l[k].num) ∧ (l.flatMap rowP)[k * 5 + 3]? = some (.bool l[k].ack) ∧ (l.flatMap rowP)[k * 5 + 4]? = some (str l[k].body) := by
  intro l
  induction l with
  | nil => intro k hk; simp at hk
  | cons a r ih =>
    intro k hk
    cases k with
    | zero => exact ⟨rfl, rfl, rfl, rfl, rfl⟩
    | succ k =>
      have := ih k (by simpa using hk)
      rw [List.flatMap_cons, show (k + 1) * 5 = k * 5 + 1 + 1 + 1 + 1 + 1 from by omega]
      exact this
theorem rowP_set : ∀ (l : List PktP) (k : Nat) (y : PktP), k < l.length → ((((((l.flatMap rowP).set (k * 5) (.int .i64 y.frm)).set (k * 5 + 1) (.int .i64 y.to)).set (k * 5 + 2) (.int .i64 y.num)).set (k * 5 + 3) (.bool y.ack)).set (k * 5 + 4) (str y.body)) = (l.set k y).flatMap rowP
  | a :: r, 0, y, _ => rfl
  | a :: r, k + 1, y, h => by
    have ih := rowP_set r k y (by simpa using h)
    rw [List.set_cons_succ, List.flatMap_cons, List.flatMap_cons, ← ih, show (k + 1) * 5 = k * 5 + 1 + 1 + 1 + 1 + 1 from by omega]
    rfl
theorem rowP_take : ∀ (l : List PktP) (k : Nat), (l.flatMap rowP).take (k * 5) = (l.take k).flatMap rowP
  | _, 0 => by simp
  | [], k + 1 => by simp
  | a :: r, k + 1 => by
    rw [List.flatMap_cons, show (k + 1) * 5 = k * 5 + 1 + 1 + 1 + 1 + 1 from by omega, List.take_succ_cons, List.flatMap_cons, ← rowP_take r k]
    rfl
theorem Pkts.five {F : Nat → Prop} {w : World} {a : Option Addr} {n c : Nat} {l : List PktP} (h : Pkts F w (.slice a n c) l) {k : Nat} (hk : k < l.length) :
    ∃ b off, a = some ⟨b, off, none⟩ ∧ w.cell? ⟨b, off + k * 5, none⟩ = some (.int .i64 l[k].frm) ∧ w.cell? ⟨b, off + k * 5 + 1, none⟩ = some (.int .i64 l[k].to) ∧ w.cell? ⟨b, off + k * 5 + 2, none⟩ = some (.int .i64 l[k].num) ∧ w.cell? ⟨b, off + k * 5 + 3, none⟩ = some (.bool l[k].ack) ∧ w.cell? ⟨b, off + k * 5 + 4, none⟩ = some (str l[k].body) := by
  obtain ⟨b, off, us, e, _, _, hus, hcs⟩ := h.at hk
  have hus' : us = rowP l[k] := hus
  subst hus'
  exact ⟨b, off, e, hcs 0 _ rfl, hcs 1 _ rfl, hcs 2 _ rfl, hcs 3 _ rfl, hcs 4 _ rfl⟩
theorem ownP_five {w : World} {g n cap : Nat} {l : List PktP} (h : w.ownsRow 0 34 5 (.slice (some ⟨g, 0, none⟩) n cap) n (l.flatMap rowP)) {k : Nat} (hk : k < l.length) :
    w.cell? ⟨g, k * 5, none⟩ = some (.int .i64 l[k].frm) ∧ w.cell? ⟨g, k * 5 + 1, none⟩ = some (.int .i64 l[k].to) ∧ w.cell? ⟨g, k * 5 + 2, none⟩ = some (.int .i64 l[k].num) ∧ w.cell? ⟨g, k * 5 + 3, none⟩ = some (.bool l[k].ack) ∧ w.cell? ⟨g, k * 5 + 4, none⟩ = some (str l[k].body) :=
  have hr := rowP_at l k hk
  ⟨own_cell h hr.1, own_cell h hr.2.1, own_cell h hr.2.2.1, own_cell h hr.2.2.2.1, own_cell h hr.2.2.2.2⟩
theorem ownP_set {w : World} {g n cap : Nat} {l : List PktP} (h : w.ownsRow 0 34 5 (.slice (some ⟨g, 0, none⟩) n cap) n (l.flatMap rowP)) {k : Nat} (hk : k < l.length) (y : PktP) :
    (((((w.setCell ⟨g, k * 5, none⟩ (.int .i64 y.frm)).setCell ⟨g, k * 5 + 1, none⟩ (.int .i64 y.to)).setCell ⟨g, k * 5 + 2, none⟩ (.int .i64 y.num)).setCell ⟨g, k * 5 + 3, none⟩ (.bool y.ack)).setCell ⟨g, k * 5 + 4, none⟩ (str y.body)).ownsRow 0 34 5 (.slice (some ⟨g, 0, none⟩) n cap) n ((l.set k y).flatMap rowP) := by
  rw [← rowP_set l k y hk]
  exact own_put (own_put (own_put (own_put (own_put h _ _) _ _) _ _) _ _) _ _

set_option maxHeartbeats 1000000 in
theorem indexP_law (P : PktP → Bool) (X Q : Nat) (v : Value) (l : List PktP) (F : Nat → Prop) (w : World) (h : Pkts F w v l)
    (hp : ∀ f w', Below w.heap.size w w' → Calls Try.prog 105 #[.agg #[.int .i64 f.frm, .int .i64 f.to, .int .i64 f.num, .bool f.ack, str f.body], .pointer (some ⟨X, 0, none⟩), .pointer (some ⟨Q, 0, none⟩)] w' fun e w'' => e = .returned (.bool (P f)) ∧ Below w'.heap.size w' w'') :
    Calls Try.prog 160 #[v, (.func (.func 105) #[] #[.pointer (some ⟨X, 0, none⟩), .pointer (some ⟨Q, 0, none⟩)])] w fun e w' => ∃ k, FirstOf P l k ∧ e = .returned (.int .i64 (placeOf l k)) ∧ Below w.heap.size w w' := by
  obtain ⟨ao, cap, rfl, hcap, hmax⟩ := h.slice
  have HF : Hid (∀ w', Below w.heap.size w w' → Pkts F w' (.slice ao l.length cap) l) := fun w' hb => h.frame (Plain.good _) (Agree.below hb)
  have HP := Lib.hid hp
  clear h hp
  go_enter Try.func160, Try.ntmps160
  go_wp2_with fail
  go_loopw [8] (fun i wr => ∃ k : Nat, i = .int .i64 k ∧ k ≤ l.length ∧ Hid (∀ j (hj : j < l.length), j < k → P l[j] = false) ∧ Hid (Below w.heap.size w wr)) (fun i _ => l.length - (intOf i).toNat)
  case atStart => exact ⟨0, rfl, Nat.zero_le _, fun j _ h => by omega, Below.refl _ _⟩
  case round =>
    obtain ⟨k, rfl, hkl, hlo, hb⟩ := hrel
    by_cases hlt : k < l.length
    · obtain ⟨b, off, rfl, c0, c1, c2, c3, c4⟩ := Pkts.five (HF.out _ hb.out) hlt
      have KP := Lib.hid (HP.out l[k] wr hb.out)
      have HS : Hid (P l[k] = false → ∀ j (hj : j < l.length), j < k + 1 → P l[j] = false) := fun hh j hj hj2 => by
        rcases Nat.lt_or_ge j k with h1 | h1
        · exact hlo.out j hj h1
        · have : j = k := by omega
          subst this
          exact hh
      have HA : Hid (P l[k] = true → FirstOf P l k) := fun hh => ⟨hkl, hlo.out, fun _ => hh⟩
      obtain ⟨y, hy⟩ := hide l[k]
      rw [hy.out] at c0 c1 c2 c3 c4 KP HS HA
      cases hq : P y
      · rw [hq] at KP
        have HK := Lib.hid (HS.out hq)
        go_wp2_with (go_at_call 105; refine KP.out.mono ?_; rintro e w' ⟨rfl, hb1⟩)
        have Hb1 := Lib.hid (hb.out.trans (hb1.mono hb.out.size))
        clear hb1
        go_wp2_with fail
        go_roundw
        case rel => exact ⟨k + 1, by go_num, by omega, HK, Hb1⟩
        case measure => simp [intOf]; omega
      · rw [hq] at KP
        have HK := Lib.hid (HA.out hq)
        have hpl : Hid (placeOf l k = (k : Int)) := by show _ = _; unfold placeOf; rw [if_pos hlt]
        go_wp2_with (go_at_call 105; refine KP.out.mono ?_; rintro e w' ⟨rfl, hb1⟩)
        have Hb1 := Lib.hid (hb.out.trans (hb1.mono hb.out.size))
        clear hb1
        go_wp2_with fail
        go_ret
        exact ⟨k, HK.out, by rw [hpl.out] <;> rfl, Hb1.out⟩
    · obtain rfl : k = l.length := by omega
      have hpl : Hid (placeOf l l.length = -1) := by show _ = _; unfold placeOf; rw [if_neg (by omega)]
      have HK : Hid (FirstOf P l l.length) := ⟨Nat.le_refl _, hlo.out, fun h => by omega⟩
      go_wp2_with fail
      go_ret
      exact ⟨l.length, HK.out, by rw [hpl.out] <;> rfl, hb.out⟩

theorem zero_pkt (w : World) : (zeroValue 34).run Try.prog w = .ok (.agg #[.int .i64 0, .int .i64 0, .int .i64 0, .bool false, .string ByteArray.empty]) w := by kernel_rfl
theorem chg_eq {g : Nat} {w w' : World} (h : Below w.heap.size w w') : Chg (fun k => k = g) w w' := Chg.fresh _ h
set_option maxHeartbeats 4000000 in
set_option maxRecDepth 100000 in
theorem deleteP_law (P : PktP → Bool) (X Q g n cap : Nat) (l : List PktP) (w : World) (h : w.ownsRow 0 34 5 (.slice (some ⟨g, 0, none⟩) n cap) n (l.flatMap rowP)) (hl : n = l.length) (hn : n ≤ 2147483648)
    (hp : ∀ f w', Chg (fun k => k = g) w w' → Calls Try.prog 105 #[.agg #[.int .i64 f.frm, .int .i64 f.to, .int .i64 f.num, .bool f.ack, str f.body], .pointer (some ⟨X, 0, none⟩), .pointer (some ⟨Q, 0, none⟩)] w' fun e w'' => e = .returned (.bool (P f)) ∧ Below w'.heap.size w' w'') :
    Calls Try.prog 104 #[.slice (some ⟨g, 0, none⟩) n cap, (.func (.func 105) #[] #[.pointer (some ⟨X, 0, none⟩), .pointer (some ⟨Q, 0, none⟩)])] w fun e w' => ∃ k, e = .returned (.slice (some ⟨g, 0, none⟩) k cap) ∧ k = (l.filter (fun f => !(P f))).length ∧ w'.ownsRow 0 34 5 (.slice (some ⟨g, 0, none⟩) k cap) k ((l.filter (fun f => !(P f))).flatMap rowP) ∧ Chg (fun k => k = g) w w' := by
  obtain ⟨post, HP⟩ := hide (fun (e : Ending) (w' : World) => ∃ k, e = .returned (.slice (some ⟨g, 0, none⟩) k cap) ∧ k = (l.filter (fun f => !(P f))).length ∧ w'.ownsRow 0 34 5 (.slice (some ⟨g, 0, none⟩) k cap) k ((l.filter (fun f => !(P f))).flatMap rowP) ∧ Chg (fun k => k = g) w w')
  rw [HP.out]
  obtain ⟨hnc, hcm, _, hgw⟩ := own_lt h
  have hfl : OwnP w (.slice (some ⟨g, 0, none⟩) l.length cap) l := by show w.ownsRow _ _ _ _ _ _; rw [← hl]; exact h
  have KI := Lib.hid (indexP_law P X Q (.slice (some ⟨g, 0, none⟩) l.length cap) l (fun _ => True) w (Sl.own rowP rowP_len hfl (fun _ _ => rfl) (fun _ _ _ _ => trivial)) (fun f w' hb => hp f w' (chg_eq hb)))
  have KC := Lib.hid hp
  have Ho := Lib.hid h
  have Hl := Lib.hid hl
  rw [← hl] at KI
  clear h hl hgw hfl hp
  go_enter Try.func104, Try.ntmps104
  go_wp2_with fail
  refine KI.out.mono ?_
  rintro e w1 ⟨k, hk, rfl, hb1⟩
  have Ho1 := Lib.hid (own_below Ho.out hb1)
  have Hb1 : Hid (Chg (fun k => k = g) w w1) := chg_eq hb1
  have Hk := Lib.hid hk
  clear hb1 hk
  by_cases hkn : k < n
  · have hpl : placeOf l k = (k : Int) := by unfold placeOf; rw [if_pos (by rw [← Hl.out]; exact hkn)]
    rw [hpl]
    have t0 : ((k : Int) == -1) = false := beq_eq_false_iff_ne.2 (by omega)
    clear hpl
    go_wp2_with fail
    go_loopw [5, 6] (fun s5 s6 wr => ∃ (kk j : Nat) (cur : List PktP), s5 = .int .i64 kk ∧ s6 = .int .i64 j ∧ j ≤ n ∧ kk < j ∧ Hid (cur.length = n) ∧ Hid (wr.ownsRow 0 34 5 (.slice (some ⟨g, 0, none⟩) n cap) n (cur.flatMap rowP)) ∧ Hid (Chg (fun k => k = g) w wr) ∧ Hid (∀ i, j ≤ i → cur[i]? = l[i]?) ∧ Hid (cur.take kk = (l.take j).filter (fun f => !(P f)))) (fun _ s6 _ => n - (intOf s6).toNat)
    case atStart =>
      refine ⟨k, k + 1, l, rfl, by go_num, by omega, by omega, Hl.out.symm, Ho1, Hb1, fun _ _ => rfl, ?_⟩
      show _ = _
      have hkl : k < l.length := by rw [← Hl.out]; exact hkn
      rw [keepOf P l hkl, Hk.out.head, if_pos (Hk.out.at_ hkl), List.append_nil]
    case round =>
      obtain ⟨kk, j, cur, rfl, rfl, hjn, hkk, hcl, ho, hb, hcu, hct⟩ := hrel
      by_cases hlt : j < n
      · have hjl : j < l.length := by rw [← Hl.out]; exact hlt
        have hjc : j < cur.length := by rw [hcl.out]; exact hlt
        have hkc : kk < cur.length := by rw [hcl.out]; omega
        have ex : cur[j] = l[j] := by
          have := hcu.out j (Nat.le_refl _)
          rw [List.getElem?_eq_getElem hjc, List.getElem?_eq_getElem hjl] at this
          exact Option.some.inj this
        obtain ⟨c0, c1, c2, c3, c4⟩ := ownP_five ho.out hjc
        have hst := keepOf P l hjl
        rw [← ex] at hst
        obtain ⟨x, hx⟩ := hide cur[j]
        rw [hx.out] at c0 c1 c2 c3 c4 hst
        have Hst := Lib.hid hst
        obtain ⟨V, hV⟩ := hide (wr.alloc (.cells #[.int .i64 x.frm, .int .i64 x.to, .int .i64 x.num, .bool x.ack, str x.body] 34))
        obtain ⟨C, hC⟩ := hide wr.heap.size
        have hcV : V.heap[C]? = some (blkP x) := by rw [← hV.out, ← hC.out]; exact hp_at _ _ rfl
        have HcV : Hid (∀ w', Below V.heap.size V w' → w'.cell? ⟨C, 0, none⟩ = some (.int .i64 x.frm) ∧ w'.cell? ⟨C, 1, none⟩ = some (.int .i64 x.to) ∧ w'.cell? ⟨C, 2, none⟩ = some (.int .i64 x.num) ∧ w'.cell? ⟨C, 3, none⟩ = some (.bool x.ack) ∧ w'.cell? ⟨C, 4, none⟩ = some (str x.body)) := fun w' hb' => by
          have h9 := (hb'.block C (lt_of_block hcV)).trans hcV
          exact ⟨cell_n h9 0 rfl, cell_n h9 1 rfl, cell_n h9 2 rfl, cell_n h9 3 rfl, cell_n h9 4 rfl⟩
        obtain ⟨d0, d1, d2, d3, d4⟩ := HcV.out V (Below.refl _ _)
        have HoV : Hid (V.ownsRow 0 34 5 (.slice (some ⟨g, 0, none⟩) n cap) n (cur.flatMap rowP)) := by show World.ownsRow _ _ _ _ _ _ _; rw [← hV.out]; exact ho.out.alloc _
        have HbV : Hid (Chg (fun k => k = g) w V) := by show Chg _ _ _; rw [← hV.out]; exact hb.out.trans (Chg.alloc _ _ _)
        have KC2 := Lib.hid (KC.out x V HbV.out)
        clear hcV ex hst
        go_upto_region 8 with fail
        rw [hV.out, hC.out]
        cases hq : P x
        · rw [hq] at KC2
          have HK2 : Hid ((cur.set kk x).take (kk + 1) = (l.take (j + 1)).filter (fun f => !(P f))) := by
            show _ = _
            rw [Hst.out, hq, ← hct.out, List.take_add_one, List.getElem?_set_self hkc, List.take_set_of_le (Nat.le_refl _)]
            rfl
          have HC2 : Hid (∀ i, j + 1 ≤ i → (cur.set kk x)[i]? = l[i]?) := fun i hi => by
            rw [List.getElem?_set_ne (by omega)]
            exact hcu.out i (by omega)
          have HL2 : Hid ((cur.set kk x).length = n) := by show _ = _; rw [List.length_set]; exact hcl.out
          go_wp2_with fail
          refine KC2.out.mono ?_
          rintro e w5 ⟨rfl, hb5⟩
          have Ho5 := Lib.hid (own_below HoV.out hb5)
          have Hb5 : Hid (Chg (fun k => k = g) w w5) := HbV.out.trans (chg_eq hb5)
          obtain ⟨e0, e1, e2, e3, e4⟩ := HcV.out _ hb5
          obtain ⟨u0, u1, u2, u3, u4⟩ := ownP_five Ho5.out hkc
          have f0 := own_free Ho5.out (kk * 5)
          have f1 := own_free Ho5.out (kk * 5 + 1)
          have f2 := own_free Ho5.out (kk * 5 + 2)
          have f3 := own_free Ho5.out (kk * 5 + 3)
          have f4 := own_free Ho5.out (kk * 5 + 4)
          obtain ⟨z, hz⟩ := hide cur[kk]
          rw [hz.out] at u0 u1 u2 u3 u4
          have HoS := Lib.hid (ownP_set Ho5.out hkc x)
          have HbS : Hid (Chg (fun k => k = g) w (((((w5.setCell ⟨g, kk * 5, none⟩ (.int .i64 x.frm)).setCell ⟨g, kk * 5 + 1, none⟩ (.int .i64 x.to)).setCell ⟨g, kk * 5 + 2, none⟩ (.int .i64 x.num)).setCell ⟨g, kk * 5 + 3, none⟩ (.bool x.ack)).setCell ⟨g, kk * 5 + 4, none⟩ (str x.body))) := ((((Hb5.out.trans (Chg.setCell (F := fun k => k = g) (a := ⟨g, kk * 5, none⟩) _ rfl _)).trans (Chg.setCell (F := fun k => k = g) (a := ⟨g, kk * 5 + 1, none⟩) _ rfl _)).trans (Chg.setCell (F := fun k => k = g) (a := ⟨g, kk * 5 + 2, none⟩) _ rfl _)).trans (Chg.setCell (F := fun k => k = g) (a := ⟨g, kk * 5 + 3, none⟩) _ rfl _)).trans (Chg.setCell (F := fun k => k = g) (a := ⟨g, kk * 5 + 4, none⟩) _ rfl _)
          have hi3 : kk < n := by omega
          clear hb5 d0 d1 d2 d3 d4 c0 c1 c2 c3 c4 hq
          go_wp2_with fail
          go_roundw
          case rel => exact ⟨kk + 1, j + 1, cur.set kk x, by go_num, by go_num, by omega, by omega, HL2, HoS, HbS, HC2, HK2⟩
          case measure => simp [intOf]; omega
        · rw [hq] at KC2
          have HK2 : Hid (cur.take kk = (l.take (j + 1)).filter (fun f => !(P f))) := by
            show _ = _
            rw [Hst.out, hq, hct.out]
            simp
          have HC2 : Hid (∀ i, j + 1 ≤ i → cur[i]? = l[i]?) := fun i hi => hcu.out i (by omega)
          go_wp2_with fail
          refine KC2.out.mono ?_
          rintro e w5 ⟨rfl, hb5⟩
          have Ho5 := Lib.hid (own_below HoV.out hb5)
          have Hb5 : Hid (Chg (fun k => k = g) w w5) := HbV.out.trans (chg_eq hb5)
          clear hb5 hq
          go_wp2_with fail
          go_roundw
          case rel => exact ⟨kk, j + 1, cur, rfl, by go_num, by omega, by omega, hcl, Ho5, Hb5, HC2, HK2⟩
          case measure => simp [intOf]; omega
      · obtain rfl : j = n := by omega
        have HK2 : Hid (cur.take kk = l.filter (fun f => !(P f))) := by show _ = _; rw [hct.out, Hl.out, List.take_length]
        obtain ⟨w3, hcr, ho3, hg3⟩ := own_clear_chg (P := Try.prog) (t := 28) ho.out Try.underlying28 zero_pkt rfl (by intro u hu; simp [Value.cells] at hu; rcases hu with rfl | rfl | rfl | rfl | rfl <;> rfl) hkk (cap - kk)
        have HkL : Hid ((l.filter (fun f => !(P f))).length = kk) := by
          show _ = _
          rw [← HK2.out, List.length_take, hcl.out]
          omega
        have Ho3 : Hid (w3.ownsRow 0 34 5 (.slice (some ⟨g, 0, none⟩) kk cap) kk ((l.filter (fun f => !(P f))).flatMap rowP)) := by
          show w3.ownsRow _ _ _ _ _ _
          rw [← HK2.out, ← rowP_take]
          exact ho3
        have Hb3 : Hid (Chg (fun k => k = g) w w3) := hb.out.trans hg3
        have hck2 : ¬ cap = kk := by omega
        have q3 : (kk : Int) ≤ (j : Int) := by omega
        have q4 : (kk : Int) ≤ (cap : Int) := by omega
        have q5 : kk ≤ cap := by omega
        clear ho3 hg3
        go_wp2_with fail
        rw [← HP.out]
        exact ⟨kk, rfl, HkL.out.symm, Ho3.out, Hb3.out⟩
  · have hkl : k = l.length := by have := Hk.out.le; have := Hl.out; omega
    have hpl : placeOf l k = -1 := by unfold placeOf; rw [if_neg (by omega)]
    rw [hpl]
    have hfil : l.filter (fun f => !(P f)) = l := by
      have := Hk.out.head
      rw [hkl, List.take_length] at this
      exact this
    have Hfil := Lib.hid hfil
    clear hpl hfil
    go_wp2_with fail
    rw [← HP.out]
    refine ⟨n, rfl, by rw [Hfil.out]; exact Hl.out, ?_, Hb1.out⟩
    rw [Hfil.out]
    exact Ho1.out
end Go.Proofs.Ytckclacdmpcpbaa
