/-
  A client as an object: making one; wanting; an answer.
-/
import Derived.Test.YtckclacdmpcpbaaZc
import Derived.Test.YtckclacdmpcpbaaRep
import Derived.WalkSpells
import Derived.WalkLawsBesides
import Derived.Lib.Hide
import Derived.BigGuardPart
namespace Go.Proofs.Ytckclacdmpcpbaa
open Go.RowKit Wm Mm Clt
set_option linter.unusedVariables false
set_option linter.unusedSimpArgs false

def inB (n low high : Int) : Bool := decide (low ≤ n) && decide (n ≤ high)

set_option maxHeartbeats 400000 in
theorem in_any (n low high : Int) (w : World) :
    Calls Try.prog 161 #[.int .i64 n, .int .i64 low, .int .i64 high] w fun e w' => e = .returned (.bool (inB n low high)) ∧ w = w' := by
  by_cases h1 : low ≤ n
  · have t1 : decide (low ≤ n) = true := decide_eq_true h1
    have e1 : inB n low high = decide (n ≤ high) := by unfold inB; rw [t1]; rfl
    rw [e1]
    clear h1 e1
    go_enter Try.func161, Try.ntmps161
    go_wp2
    go_ret
    exact ⟨rfl, rfl⟩
  · have t1 : decide (low ≤ n) = false := decide_eq_false h1
    have e1 : inB n low high = false := by unfold inB; rw [t1]; rfl
    rw [e1]
    clear h1 e1
    go_enter Try.func161, Try.ntmps161
    go_wp2
    go_ret
    exact ⟨rfl, rfl⟩

/-- may a command be? -/
def isCommand (kind : Int) (key val : List UInt8) (iff : Int) : Bool :=
  inB kind 1 6 && decide (key.length ≤ 16) && decide (val.length ≤ 64) && inB iff 0 1099511627775 &&
    (if kind = 6 then val == [] else if kind = 2 ∨ kind = 3 then (val == [] && iff == 0 && !(key == [])) else if kind = 1 ∨ kind = 5 then (iff == 0 && !(key == [])) else !(key == []))
abbrev vCmd (kind : Int) (key val : List UInt8) (iff : Int) : Value := .agg #[.int .i64 kind, str key, str val, .int .i64 iff]

set_option maxHeartbeats 2000000 in
theorem wire_isCommand (kind : Int) (key val : List UInt8) (iff : Int) (w : World) :
    Calls Try.prog 107 #[vCmd kind key val iff] w fun e w' => e = .returned (.bool (isCommand kind key val iff)) ∧ w.alloc (.cells #[.int .i64 kind, str key, str val, .int .i64 iff] 69) = w' := by
  obtain ⟨r, hr⟩ := hide (isCommand kind key val iff)
  rw [hr.out]
  go_enter Try.func107, Try.ntmps107
  go_wp2_with (go_at_call 161; refine (in_any _ _ _ _).mono ?_; rintro e w' ⟨rfl, rfl⟩)
  all_goals
    go_ret
    refine ⟨congrArg (fun b => Ending.returned (.bool b)) ?_, rfl⟩
    rw [← hr.out]
    clear hr
    first
      | (simp_all [isCommand]; done)
      | (simp_all [isCommand]; omega)


theorem own_emptyC (w : World) (e : TypeId) (size : Nat) : (w.alloc (.cells #[] e)).ownsRow w.heap.size e size (.slice (some ⟨w.heap.size, 0, none⟩) 0 0) 0 [] :=
  ⟨by simp, Or.inr ⟨w.heap.size, 0, #[], rfl, Nat.le_refl _, hp_at _ _ rfl, Nat.le_refl _, by decide, by simp, by simp⟩⟩
theorem own_ptrC {w : World} {base : Nat} {e : TypeId} {size n : Nat} {v : Value} {xs : List Value} (h : w.ownsRow base e size v n xs) (hn : 0 < n) : ∃ g c, v = .slice (some ⟨g, 0, none⟩) n c := by
  rcases h.2 with ⟨_, h0⟩ | ⟨g, c, cur, hv, _⟩
  · omega
  · exact ⟨g, c, hv⟩
abbrev rowT (s : List UInt8) : List Value := [str s]
theorem rowT_len (s : List UInt8) : (rowT s).length = 1 := rfl
theorem rowT_one (s : List UInt8) : ∀ u ∈ rowT s, u.oneCell' = true := by intro u hu; simp at hu; subst hu; rfl
abbrev rowZ (n : Int) : List Value := [.int .i64 n]
theorem rowZ_len (n : Int) : (rowZ n).length = 1 := rfl
theorem rowZ_one (n : Int) : ∀ u ∈ rowZ n, u.oneCell' = true := by intro u hu; simp at hu; subst hu; rfl
theorem info_strC : (Try.prog.info? 9).map (fun i => (i.zero, i.size, i.bytes)) = some (some (.string ByteArray.empty), 1, 16) := by kernel_rfl
theorem info_intC : (Try.prog.info? 3).map (fun i => (i.zero, i.size, i.bytes)) = some (some (.int .i64 0), 1, 8) := by kernel_rfl

set_option maxHeartbeats 1000000 in
theorem clone_texts (ev : Value) (es : List (List UInt8)) (F : Nat → Prop) (w : World) (h : Sl 1 (Plain rowT) F w ev es) (hn : es.length ≤ 8796093022000) :
    Calls Try.prog 109 #[ev] w fun e w' => ∃ v', e = .returned v' ∧ w'.ownsRow w.heap.size 9 1 v' es.length (es.flatMap rowT) ∧ Below w.heap.size w w' := by
  obtain ⟨post, HP⟩ := hide (fun (e : Ending) (w' : World) => ∃ v', e = .returned v' ∧ w'.ownsRow w.heap.size 9 1 v' es.length (es.flatMap rowT) ∧ Below w.heap.size w w')
  rw [HP.out]
  obtain ⟨ao, cap, rfl, hcap, hmax⟩ := h.slice
  have keq := fun (w : World) (a : Option Addr) (n c : Nat) => Lib.run_eql_slice_nil (P := Try.prog) w 54 9 a n c 0 0 Try.underlying54
  have Hn := Lib.hid hn
  clear hn hmax
  cases ao with
  | none =>
    obtain ⟨rfl, rfl⟩ := h.isNil
    clear h
    go_enter Try.func109, Try.ntmps109
    go_wp2_with fail
    rw [← HP.out]
    exact ⟨_, rfl, World.ownsRow_nil _ _ _ _, Below.refl _ _⟩
  | some a =>
    have hsrc := src_sl (P := Try.prog) (tx := 54) rowT Try.underlying54 (by decide) rowT_len rowT_one (h.frame (Plain.good _) (Agree.alloc F w (.cells #[] 9)))
    have Hs := Lib.hid hsrc
    have Ho := Lib.hid (own_emptyC w 9 1)
    clear h hsrc
    go_enter Try.func109, Try.ntmps109
    go_wp2_with (at_builtin; refine wpList_append_src rfl _ _ 54 54 rfl w.heap.size 9 _ 1 16 Try.underlying54 info_strC rfl _ _ _ rfl Ho.out _ _ _ rfl Hs.out (by have := Hn.out; unfold maxLen; omega) (by have := Hn.out; omega) (by simp) ?_)
    intro v' w2 ho hg
    go_wp2_with fail
    rw [← HP.out]
    refine ⟨_, rfl, ho, ?_⟩
    exact ((Below.refl w.heap.size w).alloc (Nat.le_refl _) (.cells #[] 9)).trans (grown_below hg (Nat.le_refl _) (by simp))

set_option maxHeartbeats 1000000 in
theorem clone_ints (ev : Value) (es : List Int) (F : Nat → Prop) (w : World) (h : Sl 1 (Plain rowZ) F w ev es) (hn : es.length ≤ 8796093022000) :
    Calls Try.prog 106 #[ev] w fun e w' => ∃ v', e = .returned v' ∧ w'.ownsRow w.heap.size 3 1 v' es.length (es.flatMap rowZ) ∧ Below w.heap.size w w' := by
  obtain ⟨post, HP⟩ := hide (fun (e : Ending) (w' : World) => ∃ v', e = .returned v' ∧ w'.ownsRow w.heap.size 3 1 v' es.length (es.flatMap rowZ) ∧ Below w.heap.size w w')
  rw [HP.out]
  obtain ⟨ao, cap, rfl, hcap, hmax⟩ := h.slice
  have keq := fun (w : World) (a : Option Addr) (n c : Nat) => Lib.run_eql_slice_nil (P := Try.prog) w 63 3 a n c 0 0 Try.underlying63
  have Hn := Lib.hid hn
  clear hn hmax
  cases ao with
  | none =>
    obtain ⟨rfl, rfl⟩ := h.isNil
    clear h
    go_enter Try.func106, Try.ntmps106
    go_wp2_with fail
    rw [← HP.out]
    exact ⟨_, rfl, World.ownsRow_nil _ _ _ _, Below.refl _ _⟩
  | some a =>
    have hsrc := src_sl (P := Try.prog) (tx := 63) rowZ Try.underlying63 (by decide) rowZ_len rowZ_one (h.frame (Plain.good _) (Agree.alloc F w (.cells #[] 3)))
    have Hs := Lib.hid hsrc
    have Ho := Lib.hid (own_emptyC w 3 1)
    clear h hsrc
    go_enter Try.func106, Try.ntmps106
    go_wp2_with (at_builtin; refine wpList_append_src rfl _ _ 63 63 rfl w.heap.size 3 _ 1 8 Try.underlying63 info_intC rfl _ _ _ rfl Ho.out _ _ _ rfl Hs.out (by have := Hn.out; unfold maxLen; omega) (by have := Hn.out; omega) (by simp) ?_)
    intro v' w2 ho hg
    go_wp2_with fail
    rw [← HP.out]
    refine ⟨_, rfl, ho, ?_⟩
    exact ((Below.refl w.heap.size w).alloc (Nat.le_refl _) (.cells #[] 3)).trans (grown_below hg (Nat.le_refl _) (by simp))

/-- are numbers nodes, rising? -/
def nodesB (l : List Int) : Bool := (List.range l.length).all fun k => decide (1 ≤ l.getD k 0) && decide (l.getD k 0 ≤ 9) && (decide (k = 0) || decide (l.getD (k - 1) 0 < l.getD k 0))
theorem nodesB_false {l : List Int} {k : Nat} (hk : k < l.length) (h : (decide (1 ≤ l.getD k 0) && decide (l.getD k 0 ≤ 9) && (decide (k = 0) || decide (l.getD (k - 1) 0 < l.getD k 0))) = false) : nodesB l = false := by
  unfold nodesB
  rw [List.all_eq_false]
  exact ⟨k, List.mem_range.2 hk, by rw [h]; decide⟩
set_option maxHeartbeats 4000000 in
set_option maxRecDepth 100000 in
theorem nodes_law (v : Value) (l : List Int) (F : Nat → Prop) (w : World) (h : Sl 1 (Plain rowZ) F w v l) :
    Calls Try.prog 129 #[v] w fun e w' => e = .returned (.bool (nodesB l)) ∧ w = w' := by
  obtain ⟨post, HP⟩ := hide (fun (e : Ending) (w' : World) => e = .returned (.bool (nodesB l)) ∧ w = w')
  rw [HP.out]
  obtain ⟨ao, cap, rfl, hcap, hmax⟩ := h.slice
  obtain ⟨n, hn⟩ := hide l.length
  have Hh := Lib.hid h
  rw [hn.out] at hmax hcap
  rw [hn.out]
  clear h hcap
  go_enter Try.func129, Try.ntmps129
  go_wp2_with fail
  go_loopw [7] (fun s wr => ∃ k : Nat, s = .int .i64 k ∧ k ≤ n ∧ Hid (∀ j, j < k → (decide (1 ≤ l.getD j 0) && decide (l.getD j 0 ≤ 9) && (decide (j = 0) || decide (l.getD (j - 1) 0 < l.getD j 0))) = true) ∧ wr = w) (fun s _ => n - (intOf s).toNat)
  case atStart => exact ⟨0, rfl, Nat.zero_le _, fun j hj => absurd hj (Nat.not_lt_zero _), rfl⟩
  case round =>
    obtain ⟨k, rfl, hk, hall, rfl⟩ := hrel
    by_cases hlt : k < n
    · have hkl : k < l.length := by rw [hn.out]; exact hlt
      obtain ⟨b, off, us, rfl, hFb, hlen, hus, hcells⟩ := Hh.out.at hkl
      have hus' : us = rowZ l[k] := hus
      subst hus'
      have c0 := hcells 0 _ rfl
      rw [Nat.add_zero] at c0
      have hki : (k : Int) < (n : Int) := by omega
      obtain ⟨x, hx⟩ := hide l[k]
      rw [hx.out, Nat.mul_one] at c0
      have hgd : l.getD k 0 = x := by simp [List.getD_eq_getElem?_getD, hkl, hx.out]
      have Hgd := Lib.hid hgd
      have Hkl := Lib.hid hkl
      have Hall := Lib.hid hall
      rw [hn.out] at Hh
      clear hgd hcells hlen hFb hus
      cases a1 : decide (x < 1)
      · cases a2 : decide (9 < x)
        · rcases Nat.eq_zero_or_pos k with hk0 | hk0
          · have a0 : decide (0 < k) = false := decide_eq_false (by omega)
            have HN : Hid (∀ j, j < k + 1 → (decide (1 ≤ l.getD j 0) && decide (l.getD j 0 ≤ 9) && (decide (j = 0) || decide (l.getD (j - 1) 0 < l.getD j 0))) = true) := fun j hj => by
              have hj0 : j = k := by omega
              subst hj0
              have := of_decide_eq_false a1
              have := of_decide_eq_false a2
              rw [Hgd.out]
              simp; omega
            have Hk0 := Lib.hid hk0
            clear hk0 hx hkl
            go_wp2_with fail
            go_roundw
            case rel => exact ⟨k + 1, by go_num, by omega, HN, by first | rfl | trivial⟩
            case measure => simp [intOf]; omega
          · obtain ⟨q, hq⟩ : ∃ q, k = q + 1 := ⟨k - 1, by omega⟩
            have hql : q < l.length := by omega
            obtain ⟨b2, off2, us2, he, _, _, hus2, hcells2⟩ := (show Sl 1 (Plain rowZ) F wr (.slice (some ⟨b, off, none⟩) l.length cap) l by rw [hn.out]; exact Hh.out).at hql
            have hus2' : us2 = rowZ l[q] := hus2
            subst hus2'
            injection he with he
            injection he with he1 he2
            subst he1 he2
            have c1 := hcells2 0 _ rfl
            obtain ⟨y, hy⟩ := hide l[q]
            rw [Nat.add_zero, hy.out, Nat.mul_one] at c1
            have hgq : l.getD (k - 1) 0 = y := by rw [hq]; simp [List.getD_eq_getElem?_getD, hql, hy.out]
            have hsub : (k : Int) - 1 = (q : Int) := by omega
            have hqi : (q : Int) < (n : Int) := by omega
            have hqn : q < n := by omega
            have a0 : decide (0 < k) = true := decide_eq_true hk0
            have hkz : (decide (k = 0)) = false := decide_eq_false (by omega)
            have Hgq := Lib.hid hgq
            have Hkz := Lib.hid hkz
            cases a3 : decide (x ≤ y)
            · have HN : Hid (∀ j, j < k + 1 → (decide (1 ≤ l.getD j 0) && decide (l.getD j 0 ≤ 9) && (decide (j = 0) || decide (l.getD (j - 1) 0 < l.getD j 0))) = true) := fun j hj => by
                by_cases hjk : j < k
                · exact Hall.out j hjk
                · have hj0 : j = k := by omega
                  subst hj0
                  have h1 := of_decide_eq_false a1
                  have h2 := of_decide_eq_false a2
                  have h3 := of_decide_eq_false a3
                  rw [Hgd.out, Hgq.out]
                  simp; omega
              clear hk0 hx hkl hcells2 hus2 hgq hkz hq
              go_wp2_with fail
              go_roundw
              case rel => exact ⟨k + 1, by go_num, by omega, HN, by first | rfl | trivial⟩
              case measure => simp [intOf]; omega
            · have hB : nodesB l = false := nodesB_false hkl (by rw [Hgd.out, Hgq.out, Hkz.out]; have h3 := of_decide_eq_true a3; rw [show decide (y < x) = false from decide_eq_false (by omega)]; simp)
              have HB := Lib.hid hB
              clear hk0 hx hkl hcells2 hus2 hgq hkz hq hB
              go_wp2_with fail
              rw [← HP.out, HB.out]
              exact ⟨rfl, rfl⟩
        · have hB : nodesB l = false := nodesB_false hkl (by rw [Hgd.out]; have h3 := of_decide_eq_true a2; rw [show decide (x ≤ 9) = false from decide_eq_false (by omega)]; simp)
          have HB := Lib.hid hB
          clear hx hkl hB
          go_wp2_with fail
          rw [← HP.out, HB.out]
          exact ⟨rfl, rfl⟩
      · have hB : nodesB l = false := nodesB_false hkl (by rw [Hgd.out]; have h3 := of_decide_eq_true a1; rw [show decide (1 ≤ x) = false from decide_eq_false (by omega)]; simp)
        have HB := Lib.hid hB
        clear hx hkl hB
        go_wp2_with fail
        rw [← HP.out, HB.out]
        exact ⟨rfl, rfl⟩
    · obtain rfl : k = n := by omega
      have hB : nodesB l = true := by
        unfold nodesB
        rw [List.all_eq_true]
        intro j hj
        exact hall.out j (by rw [← hn.out]; exact List.mem_range.1 hj)
      have HB := Lib.hid hB
      clear hB
      go_wp2_with fail
      rw [← HP.out, HB.out]
      exact ⟨rfl, rfl⟩
set_option maxHeartbeats 4000000 in
set_option maxRecDepth 100000 in
theorem valid_law (v : Value) (l : List Int) (F : Nat → Prop) (w : World) (h : Sl 1 (Plain rowZ) F w v l) (hB : nodesB l = true) (h0 : 1 ≤ l.length) :
    Calls Try.prog 53 #[.agg #[v, .slice none 0 0, .slice none 0 0]] w fun e w' => e = .returned (.bool true) ∧ Below w.heap.size w w' := by
  obtain ⟨post, HP⟩ := hide (fun (e : Ending) (w' : World) => e = .returned (.bool true) ∧ Below w.heap.size w w')
  rw [HP.out]
  obtain ⟨ao, cap, rfl, hcap, hmax⟩ := h.slice
  obtain ⟨W, hW⟩ := hide (w.alloc (.cells #[.slice ao l.length cap, .slice none 0 0, .slice none 0 0] 103))
  obtain ⟨R, hR⟩ := hide w.heap.size
  have HRW : Hid (W.heap[R]? = some (.cells #[.slice ao l.length cap, .slice none 0 0, .slice none 0 0] 103 (0, 0))) := by show _ = _; rw [← hW.out, ← hR.out]; exact hp_at _ _ rfl
  have HbW : Hid (Below w.heap.size w W) := by show Below _ _ _; rw [← hW.out]; exact (Below.refl _ _).alloc (Nat.le_refl _) _
  have K1 := Lib.hid (nodes_law _ l F W (h.frame (Plain.good _) (Agree.below HbW.out)))
  have K2 := Lib.hid (nodes_law _ [] F W (Sl.nil 1 (Plain rowZ) F W))
  have hB0 : nodesB [] = true := by decide
  rw [hB] at K1
  rw [hB0] at K2
  have c0 := cell_n HRW.out 0 (v := .slice ao l.length cap) rfl
  have c1 := cell_n HRW.out 1 (v := .slice none 0 0) rfl
  have c2 := cell_n HRW.out 2 (v := .slice none 0 0) rfl
  obtain ⟨n, hn⟩ := hide l.length
  rw [hn.out] at c0 K1 h0 hW HRW
  have hn0 : ((n : Int) == 0) = false := beq_eq_false_iff_ne.2 (by omega)
  rw [hn.out]
  clear h hB hB0 hcap hmax
  go_enter Try.func53, Try.ntmps53
  go_upto_region 1 with fail
  rw [hW.out, hR.out]
  go_wp2_with (go_at_call 129; refine Calls.mono (by first | (with_reducible exact K1.out) | (with_reducible exact K2.out)) ?_; rintro e w' ⟨rfl, rfl⟩)
  go_loopw [30] (fun s wr => s = .int .i64 0 ∧ wr = W) (fun s _ => 0)
  case atStart => exact ⟨rfl, rfl⟩
  case round =>
    obtain ⟨rfl, rfl⟩ := hrel
    go_wp2_with fail
    rw [← HP.out]
    exact ⟨rfl, HbW.out⟩
def nodesZ (m : Nat) : List Int := (List.range m).map fun (k : Nat) => (k : Int) + 1
theorem nodesZ_len (m : Nat) : (nodesZ m).length = m := by simp [nodesZ]
theorem nodesZ_rows (m : Nat) : (nodesZ m).flatMap rowZ = nodesL m := by
  unfold nodesZ nodesL
  induction m with
  | zero => rfl
  | succ m ih => rw [List.range_succ, List.map_append, List.map_append, List.flatMap_append, ih]; rfl
theorem nodesZ_ok {m : Nat} (h : m ≤ 9) : nodesB (nodesZ m) = true := by
  unfold nodesB
  rw [List.all_eq_true]
  intro k hk
  rw [List.mem_range, nodesZ_len] at hk
  have h1 : (nodesZ m).getD k 0 = (k : Int) + 1 := by simp [nodesZ, List.getD_eq_getElem?_getD, hk]
  rcases Nat.eq_zero_or_pos k with h0 | h0
  · rw [h1]; subst h0; simp
  · have h2 : (nodesZ m).getD (k - 1) 0 = ((k - 1 : Nat) : Int) + 1 := by simp [nodesZ, List.getD_eq_getElem?_getD, show k - 1 < m from by omega]
    rw [h1, h2]
    simp; omega
set_option maxHeartbeats 4000000 in
set_option maxRecDepth 100000 in
theorem newC_law (v : Value) (m : Nat) (F : Nat → Prop) (w : World) (h : Sl 1 (Plain rowZ) F w v (nodesZ m)) (h1 : 1 ≤ m) (h9 : m ≤ 9) :
    Calls Try.prog 32 #[v, .int .i64 2] w fun e w' => ∃ C, e = .returned (.tuple #[.pointer (some ⟨C, 0, none⟩), .int .i64 0]) ∧ CliX w' C (newC m) ∧ w.heap.size ≤ C ∧ Below w.heap.size w w' := by
  obtain ⟨post, HP⟩ := hide (fun (e : Ending) (w' : World) => ∃ C, e = .returned (.tuple #[.pointer (some ⟨C, 0, none⟩), .int .i64 0]) ∧ CliX w' C (newC m) ∧ w.heap.size ≤ C ∧ Below w.heap.size w w')
  rw [HP.out]
  obtain ⟨ao, cap, rfl, hcap, hmax⟩ := h.slice
  have hl := nodesZ_len m
  have K1 := Lib.hid (valid_law _ _ F w h (nodesZ_ok h9) (by rw [hl]; exact h1))
  have HF : Hid (∀ w', Below w.heap.size w w' → Sl 1 (Plain rowZ) F w' (.slice ao (nodesZ m).length cap) (nodesZ m)) := fun w' hb => h.frame (Plain.good _) (Agree.below hb)
  rw [hl] at K1 HF ⊢
  have Hm := Lib.hid (And.intro h1 h9)
  clear h hl hcap hmax
  go_enter Try.func32, Try.ntmps32
  go_wp2_with fail
  refine K1.out.mono ?_
  rintro e w1 ⟨rfl, hb1⟩
  have K2 := Lib.hid (clone_ints _ _ F w1 (HF.out w1 hb1) (by rw [nodesZ_len]; omega))
  have Hb1 := Lib.hid hb1
  clear hb1 h1 h9
  go_wp2_with fail
  refine K2.out.mono ?_
  rintro e w2 ⟨v2, rfl, ho2, hb2⟩
  rw [nodesZ_len, nodesZ_rows] at ho2
  obtain ⟨g, cap2, rfl⟩ := own_ptrC ho2 Hm.out.1
  have HE : Hid (post (.returned (.tuple #[.pointer (some ⟨w2.heap.size, 0, none⟩), .int .i64 0])) (w2.alloc (.cells (cellsC (.slice (some ⟨g, 0, none⟩) m cap2) (newC m) (.pointer none) (.pointer none)).toArray 194))) := by
    show post _ _
    rw [← HP.out]
    refine ⟨w2.heap.size, rfl, ⟨g, cap2, .pointer none, .pointer none, hp_at _ _ rfl, own_base (ho2.alloc _) (Nat.zero_le _), rfl, rfl⟩, Nat.le_trans Hb1.out.size hb2.size, ?_⟩
    exact (Hb1.out.trans (hb2.mono Hb1.out.size)).alloc (Nat.le_trans Hb1.out.size hb2.size) _
  clear ho2 hb2
  go_wp2_with fail
  exact HE.out
end Go.Proofs.Ytckclacdmpcpbaa
