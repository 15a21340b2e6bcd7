/-
  Entries as bytes, both ways.
-/
import Derived.Test.YtidiodlemjeelaaEn
import Derived.Test.YtidiodlemjeelaaWp
import Derived.Deep.DeepCutAuto
namespace Go.Proofs.Ytidiodlemjeelaa
open Go.RowKit Wm Mm
set_option linter.unusedVariables false

theorem isEntry_facts {index term kind : Int} {data : List UInt8} (h : isEntry index term kind data = true) :
    ∃ a b k : Nat, index = a ∧ term = b ∧ kind = k ∧ a < 1099511627776 ∧ b < 1099511627776 ∧ k < 3 ∧ data.length ≤ 256 := by
  simp only [isEntry, Bool.and_eq_true, decide_eq_true_eq] at h
  obtain ⟨h1, h2, h3, h4, _⟩ := h
  have g1 := inB_of h1
  have g2 := inB_of h2
  have g3 := inB_of h3
  exact ⟨index.toNat, term.toNat, kind.toNat, by omega, by omega, by omega, by omega, by omega, by omega, h4⟩
def putEntB (index term kind : Int) (data : List UInt8) : List UInt8 := if isEntry index term kind data = true then putEnt index.toNat term.toNat kind.toNat data else []
def putEntE (index term kind : Int) (data : List UInt8) : Int := if isEntry index term kind data = true then 0 else 6
theorem putEnt_len (a b k : Nat) (data : List UInt8) (h1 : a < 1099511627776) (h2 : b < 1099511627776) (h3 : k < 3) (h4 : data.length ≤ 256) : (putEnt a b k data).length ≤ 292 := by
  have g1 := putNum_len10 (n := a) (by omega)
  have g2 := putNum_len10 (n := b) (by omega)
  have g3 := putNum_len10 (n := k) (by omega)
  have g4 := putText_len data (by omega)
  simp [putEnt]; omega

set_option maxHeartbeats 2000000 in
theorem wire_putEntry (index term kind : Int) (data : List UInt8) (w : World) :
    Calls Try.prog 29 #[vEnt index term kind data] w fun e w' =>
      e = .returned (.tuple #[str (putEntB index term kind data), .int .i64 (putEntE index term kind data)]) ∧ Below w.heap.size w w' := by
  have hwv : ∀ w1, Calls Try.prog 137 #[vEnt index term kind data] w1 fun e w' => e = .returned (.bool (isEntry index term kind data)) ∧ w1.alloc (.cells #[.int .i64 index, .int .i64 term, .int .i64 kind, str data] 69) = w' := fun w1 => wire_isEntry index term kind data w1
  unfold putEntB putEntE
  cases hok : isEntry index term kind data with
  | false =>
    rw [hok] at hwv
    have HV := Lib.hid hwv
    clear hwv hok
    go_enter Try.func29, Try.ntmps29
    go_wp2_with fail
    refine (HV.out _).mono ?_
    rintro e w1 ⟨rfl, hw1⟩
    have hb : Below w.heap.size w w1 := by rw [← hw1]; exact ((Below.refl _ _).alloc (Nat.le_refl _) _).alloc (by simp) _
    have Hb := Lib.hid hb
    clear hb hw1
    go_wp2_with fail
    go_ret2
    exact ⟨rfl, Hb.out⟩
  | true =>
    rw [hok] at hwv
    have HV := Lib.hid hwv
    obtain ⟨a, b, k, rfl, rfl, rfl, h1, h2, h3, h4⟩ := isEntry_facts hok
    clear hwv hok
    rw [if_pos rfl, if_pos rfl]
    simp only [Int.toNat_natCast]
    obtain ⟨p, hp⟩ := hide (putEnt a b k data)
    have HW : ∀ bb w1, Wr w1 bb [] → Calls Try.prog 108 #[.pointer (some ⟨bb, 0, none⟩), vEnt a b k data] w1 fun e w' => e = .returned (.tuple #[]) ∧ Wr w' bb p ∧ BK bb w1 w' := fun bb w1 hw => by
      have := writer_entry a b k data (by omega) (by omega) (by omega) (by simp; omega) hw
      rw [List.nil_append, hp.out] at this
      exact this
    have HW := Lib.hid HW
    rw [hp.out]
    clear h1 h2 h3 h4
    have hc0 : (w.alloc (.cells #[.int .i64 a, .int .i64 b, .int .i64 k, str data] 69)).heap[w.heap.size]? = some (.cells #[.int .i64 a, .int .i64 b, .int .i64 k, str data] 69 (0, 0)) := hp_at _ _ rfl
    obtain ⟨W1, hW1⟩ := hide (w.alloc (.cells #[.int .i64 a, .int .i64 b, .int .i64 k, str data] 69))
    have hb1 : Below w.heap.size w W1 := by rw [← hW1.out]; exact (Below.refl _ _).alloc (Nat.le_refl _) _
    rw [hW1.out] at hc0
    obtain ⟨B, hB⟩ := hide w.heap.size
    rw [hB.out] at hc0 hb1
    have c0 := cell_n hc0 0 (v := .int .i64 a) rfl
    have c1 := cell_n hc0 1 (v := .int .i64 b) rfl
    have c2 := cell_n hc0 2 (v := .int .i64 k) rfl
    have c3 := cell_n hc0 3 (v := str data) rfl
    have Hc0 := Lib.hid hc0
    have Hb1 := Lib.hid hb1
    clear hc0 hb1
    go_enter Try.func29, Try.ntmps29
    go_upto_region 1 with fail
    rw [hW1.out, hB.out]
    go_wp2_with fail
    refine (HV.out _).mono ?_
    rintro e W2 ⟨rfl, hw2⟩
    have hc2 : W2.heap[B]? = some (.cells #[.int .i64 a, .int .i64 b, .int .i64 k, str data] 69 (0, 0)) := by rw [← hw2]; exact (hp_past _ _ (by have := lt_of_block Hc0.out; omega)).trans Hc0.out
    have hb2 : Below B w W2 := by rw [← hw2]; exact Hb1.out.alloc (by have := lt_of_block Hc0.out; omega) _
    obtain ⟨W3, hW3⟩ := hide (W2.alloc (.cells #[.slice none 0 0] 153))
    have hc3 : W3.heap[B]? = some (.cells #[.int .i64 a, .int .i64 b, .int .i64 k, str data] 69 (0, 0)) := by rw [← hW3.out]; exact (hp_past _ _ (by have := lt_of_block hc2; omega)).trans hc2
    have hb3 : Below B w W3 := by rw [← hW3.out]; exact hb2.alloc (by have := lt_of_block hc2; omega) _
    have hw3 : Wr W3 W2.heap.size [] := by rw [← hW3.out]; exact ⟨_, hp_at _ _ rfl, World.ownsRow_nil _ _ _ _⟩
    have Hlt : Hid (B ≤ W2.heap.size) := by have := lt_of_block hc2; show _ ≤ _; omega
    have Hb3 := Lib.hid hb3
    have Hw3 := Lib.hid hw3
    clear c0 c1 c2 c3 hc2 hb2 hw2 hb3 hw3
    have c0 := cell_n hc3 0 (v := .int .i64 a) rfl
    have c1 := cell_n hc3 1 (v := .int .i64 b) rfl
    have c2 := cell_n hc3 2 (v := .int .i64 k) rfl
    have c3 := cell_n hc3 3 (v := str data) rfl
    clear hc3
    go_upto_region 4 with fail
    rw [hW3.out]
    obtain ⟨M, hM⟩ := hide W2.heap.size
    rw [hM.out] at Hw3 Hlt ⊢
    go_wp2_with fail
    refine (HW.out _ _ Hw3.out).mono ?_
    rintro e w4 ⟨rfl, hw4, hb4⟩
    have Hb4 := Lib.hid (Hb3.out.trans (hb4.1.mono Hlt.out))
    obtain ⟨v, hv, ho⟩ := hw4
    have d0 := cell_of_one hv
    have kc := writer_str ho
    clear c0 c1 c2 c3 hv ho hb4
    go_wp2_with fail
    go_ret2
    exact ⟨rfl, by rw [hB.out]; exact Hb4.out⟩

set_option maxHeartbeats 2000000 in
theorem ref_entry (a b k : Nat) (data : List UInt8) (w : World) (h1 : a < 1099511627776) (h2 : b < 1099511627776) (h3 : k < 3) (h4 : data.length ≤ 256) :
    Calls Try.prog 113 #[vEnt a b k data] w fun e w' => e = .returned (str (putEnt a b k data)) ∧ Below w.heap.size w w' := by
  have K1 := Lib.hid (fun w' => ref_number_any (n := a) (by omega) w')
  have K2 := Lib.hid (fun w' => ref_number_any (n := b) (by omega) w')
  have K3 := Lib.hid (fun w' => ref_number_any (n := k) (by omega) w')
  have K4 := Lib.hid (fun w' => ref_text data w' (by omega))
  have g1 := putNum_len10 (n := a) (by omega)
  have g2 := putNum_len10 (n := b) (by omega)
  have g3 := putNum_len10 (n := k) (by omega)
  have g4 := putText_len data (by omega)
  have etot : putEnt a b k data = putNum a ++ putNum b ++ putNum k ++ putText data := by simp [putEnt]
  rw [etot]
  obtain ⟨p1, hp1⟩ := hide (putNum a)
  obtain ⟨p2, hp2⟩ := hide (putNum b)
  obtain ⟨p3, hp3⟩ := hide (putNum k)
  obtain ⟨p4, hp4⟩ := hide (putText data)
  rw [hp1.out] at K1 g1
  rw [hp2.out] at K2 g2
  rw [hp3.out] at K3 g3
  rw [hp4.out] at K4 g4
  rw [hp1.out, hp2.out, hp3.out, hp4.out]
  have hs1 : p1.length + p2.length ≤ 9223372036854775807 := by omega
  have hs2 : p1.length + p2.length + p3.length ≤ 9223372036854775807 := by omega
  have hs3 : p1.length + p2.length + p3.length + p4.length ≤ 9223372036854775807 := by omega
  obtain ⟨W1, hW1⟩ := hide (w.alloc (.cells #[.int .i64 a, .int .i64 b, .int .i64 k, str data] 69))
  have hc0 : W1.heap[w.heap.size]? = some (.cells #[.int .i64 a, .int .i64 b, .int .i64 k, str data] 69 (0, 0)) := by rw [← hW1.out]; exact hp_at _ _ rfl
  have hb1 : Below w.heap.size w W1 := by rw [← hW1.out]; exact (Below.refl _ _).alloc (Nat.le_refl _) _
  have Hx : Hid (∀ w', Below W1.heap.size W1 w' → w'.heap[w.heap.size]? = some (.cells #[.int .i64 a, .int .i64 b, .int .i64 k, str data] 69 (0, 0)) ∧ Below w.heap.size w w') := fun w' h => ⟨(h.block _ (lt_of_block hc0)).trans hc0, hb1.trans (h.mono hb1.size)⟩
  clear h1 h2 h3 h4 hc0 hb1 etot g1 g2 g3 g4
  obtain ⟨B, hB⟩ := hide w.heap.size
  rw [hB.out] at Hx
  have H0 := Lib.hid (Below.refl W1.heap.size W1)
  have c0 := cell_n (Hx.out _ H0.out).1 0 (v := .int .i64 a) rfl
  go_enter Try.func113, Try.ntmps113
  go_upto_region 1 with fail
  rw [hW1.out, hB.out]
  go_wp2_with fail
  refine (K1.out _).mono ?_
  rintro e w1 ⟨rfl, hb1⟩
  have H1 := Lib.hid (H0.out.trans (hb1.mono H0.out.size))
  clear c0 hb1
  have c0 := cell_n (Hx.out _ H1.out).1 1 (v := .int .i64 b) rfl
  go_wp2_with fail
  refine (K2.out _).mono ?_
  rintro e w2 ⟨rfl, hb1⟩
  have H2 := Lib.hid (H1.out.trans (hb1.mono H1.out.size))
  clear c0 hb1
  have c0 := cell_n (Hx.out _ H2.out).1 2 (v := .int .i64 k) rfl
  go_wp2_with fail
  refine (K3.out _).mono ?_
  rintro e w3 ⟨rfl, hb1⟩
  have H3 := Lib.hid (H2.out.trans (hb1.mono H2.out.size))
  clear c0 hb1
  have c0 := cell_n (Hx.out _ H3.out).1 3 (v := str data) rfl
  go_wp2_with fail
  refine (K4.out _).mono ?_
  rintro e w4 ⟨rfl, hb1⟩
  have H4 := Lib.hid (Hx.out _ (H3.out.trans (hb1.mono H3.out.size))).2
  clear c0 hb1
  go_wp2_with fail
  go_ret
  exact ⟨by simp, by rw [hB.out]; exact H4.out⟩

end Go.Proofs.Ytidiodlemjeelaa
