/-
  WireTorn: the walk.
-/
import Derived.Test.YtbonmeogmjfkeaaFr
import Derived.Test.YtbonmeogmjfkeaaGp
import Derived.Test.YtbonmeogmjfkeaaTq
import Derived.Test.YtbonmeogmjfkeaaPk
import Derived.Test.YtbonmeogmjfkeaaTz
import Derived.Test.YtbonmeogmjfkeaaTb
import Derived.Test.YtbonmeogmjfkeaaLs
import Derived.Deep.DeepCutAuto
import Derived.Deep.CutBlock
import Derived.Laws.BitsAllLaws
namespace Go.Proofs.Ytbonmeogmjfkeaa
open Go.RowKit Wm Mm
set_option linter.unusedVariables false

set_option maxHeartbeats 400000 in
theorem wire_frame_any (s : List UInt8) (w : World) :
    Calls Try.prog 37 #[str s] w fun e w' => e = .returned (.tuple #[str (frameB s), .int .i64 (frameE s)]) ∧ Below w.heap.size w w' := by
  by_cases hl : 65536 < s.length
  · have e1 : frameB s = [] := if_pos hl
    have e2 : frameE s = 4 := if_pos hl
    have t0 : decide ((65536 : Int) < (s.length : Int)) = true := decide_eq_true (by omega)
    rw [e1, e2]
    clear e1 e2 hl
    go_enter Try.func37, Try.ntmps37
    go_wp2_with fail
    go_ret2
    exact ⟨rfl, Below.refl _ _⟩
  · exact wire_frame s w (by omega)

def endsL (l : List (List UInt8)) (k : Nat) : List Nat := (List.range k).map fun j => catE l (j + 1)
theorem endsL_succ (l : List (List UInt8)) (k : Nat) : endsL l (k + 1) = endsL l k ++ [catE l (k + 1)] := by simp [endsL, List.range_succ]
theorem endsL_len (l : List (List UInt8)) (k : Nat) : (endsL l k).length = k := by simp [endsL]
theorem ints_map (l : List Nat) : (ints l).map (Value.int .i64) = l.map vNat := by simp [ints, Function.comp_def]
theorem Ints_cell {w : World} {a : Option Addr} {n c : Nat} {l : List Int} (h : Ints w (.slice a n c) l) (j : Nat) (x : Int) (hx : l[j]? = some x) :
    ∃ b off, a = some ⟨b, off, none⟩ ∧ w.cell? ⟨b, off + j, none⟩ = some (.int .i64 x) := by
  obtain ⟨ao, cap, he, h1, h2⟩ := h
  obtain ⟨b, off, rfl, h3⟩ := h1 (fun e => by rw [e] at hx; simp at hx)
  injection he with e1 e2 e3
  exact ⟨b, off, e1, h3 j x hx⟩
theorem endsL_int (l : List (List UInt8)) (k j : Nat) : (ints (endsL l k))[j]? = if j < k then some ((catE l (j + 1) : Nat) : Int) else none := by
  unfold ints endsL
  by_cases h : j < k
  · simp [h]
  · simp [h]
theorem four_cells' {w : World} {b : Nat} {x0 x1 x2 x3 : Value} {t : TypeId} (h : w.heap[b]? = some (.cells #[x0, x1, x2, x3] t (0, 0))) :
    w.cell? ⟨b, 0, none⟩ = some x0 ∧ w.cell? ⟨b, 1, none⟩ = some x1 ∧ w.cell? ⟨b, 2, none⟩ = some x2 ∧ w.cell? ⟨b, 3, none⟩ = some x3 := by
  simp [World.cell?, h]
theorem u8_xor_p (x : UInt8) {p : Nat} (h : p < 256) : bits .xor .u8 (x.toNat : Int) (p : Int) = ((x ^^^ UInt8.ofNat p).toNat : Int) := by
  rw [u8_xor_nat x.toNat p x.toNat_lt h, UInt8.toNat_xor, UInt8.toNat_ofNat_of_lt' h]
theorem ofNat_ne {p : Nat} (h : p < 256) : ((p : Int) != 0) = (UInt8.ofNat p != 0) := by
  have h1 := UInt8.toNat_ofNat_of_lt' h
  by_cases h0 : p = 0
  · subst h0; rfl
  · have h2 : (UInt8.ofNat p) ≠ 0 := fun e => by rw [e] at h1; exact h0 h1.symm
    rw [bne_iff_ne.2 h2]
    simp; omega
theorem str_ne {l : List (List UInt8)} {k : Nat} (h : k < l.length) : l ≠ [] := by
  cases l with
  | nil => simp at h
  | cons _ _ => simp

set_option maxHeartbeats 2000000 in
set_option maxRecDepth 100000 in
theorem law_torn (v : Value) (l : List (List UInt8)) (at' m0 m1 m2 m3 : Int) (w : World) (hv : Strs w v l) (hn : l.length ≤ 8796093022208) :
    Calls Try.prog 8 #[v, .int .i64 at', .agg #[.int .i64 m0, .int .i64 m1, .int .i64 m2, .int .i64 m3]] w fun e w' => e = .returned (.bool true) ∧ Below w.heap.size w w' := by
  obtain ⟨ao, cap, rfl, hc, hm⟩ := hv
  have HC := Lib.hid hc
  obtain ⟨post, HP⟩ := hide (fun (e : Ending) (w' : World) => e = .returned (.bool true) ∧ Below w.heap.size w w')
  rw [HP.out]
  have Hn := Lib.hid hn
  clear hc hm hn
  go_enter Try.func8, Try.ntmps8
  go_wp2_with fail
  obtain ⟨W0, hW0⟩ := hide (w.alloc (.cells #[.int .i64 m0, .int .i64 m1, .int .i64 m2, .int .i64 m3] 78))
  rw [hW0.out]
  have hm0 : W0.heap[w.heap.size]? = some (.cells #[.int .i64 m0, .int .i64 m1, .int .i64 m2, .int .i64 m3] 78 (0, 0)) := by rw [← hW0.out]; exact hp_at _ _ rfl
  have hb0 : Below w.heap.size w W0 := by rw [← hW0.out]; exact (Below.refl _ _).alloc (Nat.le_refl _) _
  have hs0 : W0.heap.size = w.heap.size + 1 := by rw [← hW0.out]; simp
  have Hm0 := Lib.hid hm0
  have Hb0 := Lib.hid hb0
  have Hs0 := Lib.hid hs0
  obtain ⟨B, hB⟩ := hide w.heap.size
  rw [hB.out] at Hm0 Hb0 Hs0 ⊢
  have HPt : Hid (∀ w', Below B w w' → post (.returned (.bool true)) w') := by
    show ∀ w', _ → _
    intro w' h; rw [← HP.out, hB.out]; exact ⟨rfl, h⟩
  clear hm0 hb0 hs0
  go_loopw [7, 8, 9] (fun s en i wr => ∃ k : Nat, i = .int .i64 k ∧ k ≤ l.length ∧ s = str (cat (l.take k)) ∧ Hid (wr.ownsRow (B + 1) 3 1 en k ((endsL l k).map vNat)) ∧ Hid (Below (B + 1) W0 wr) ∧ Hid (∀ x ∈ l.take k, x.length ≤ 65536)) (fun _ _ i _ => l.length - (intOf i).toNat)
  case atStart => exact ⟨0, rfl, Nat.zero_le _, rfl, World.ownsRow_nil _ _ _ _, Below.refl _ _, fun x h => by cases h⟩
  case round =>
    obtain ⟨k, rfl, hk, rfl, ho, hb, hx⟩ := hrel
    have Hall : Hid (Below B w wr) := Hb0.out.trans (hb.out.mono (Nat.le_succ _))
    obtain ⟨ae, ce, rfl⟩ := owns_slice ho.out
    by_cases hlt : k < l.length
    · obtain ⟨b, off, rfl, hcell⟩ := HC.out (str_ne hlt)
      have hcell := hcell k l[k] (by simp [hlt])
      have hcw : wr.cell? ⟨b, off + k, none⟩ = some (str l[k]) := by
        rw [Hall.out.cell (p := ⟨b, off + k, none⟩) (by rw [← hB.out]; exact World.block_lt_of_cell? _ _ hcell)]; exact hcell
      have hcat := cat_succ l k hlt
      have hE : catE l (k + 1) = (cat (l.take (k + 1))).length := rfl
      have hlx : l.take (k + 1) = l.take k ++ [l[k]] := take_snoc l k hlt
      obtain ⟨x, hX⟩ := hide l[k]
      rw [hX.out] at hcw hcat hlx
      clear hcell
      have HF := Lib.hid (wire_frame_any x wr)
      have hbw : b < wr.heap.size := World.block_lt_of_cell? _ _ hcw
      have hBw : B + 1 ≤ wr.heap.size := by have := hb.out.size; have := Hs0.out; omega
      by_cases hbig : 65536 < x.length
      · have e1 : frameB x = [] := if_pos hbig
        have e2 : frameE x = 4 := if_pos hbig
        have t0 : decide ((65536 : Int) < (x.length : Int)) = true := decide_eq_true (by omega)
        rw [e1, e2] at HF
        clear e1 e2 hcat hlx hE
        have HL : Hid (65536 < x.length) := hbig
        clear hbig
        go_wp2_with fail
        refine HF.out.mono ?_
        rintro e w1 ⟨rfl, hb1⟩
        have hcw1 : w1.cell? ⟨b, off + k, none⟩ = some (str x) := by rw [hb1.cell (p := ⟨b, off + k, none⟩) hbw]; exact hcw
        have Hb1 : Hid (Below B w w1) := Hall.out.trans (hb1.mono (by have := Hall.out.size; have := hB.out; omega))
        clear hb1 hcw
        go_wp2_with fail
        exact HPt.out _ Hb1.out
      · have hsm : x.length ≤ 65536 := Nat.le_of_not_lt hbig
        have e1 : frameB x = frame x := if_neg hbig
        have e2 : frameE x = 0 := if_neg hbig
        have t0 : decide ((65536 : Int) < (x.length : Int)) = false := decide_eq_false (by omega)
        rw [e1, e2] at HF
        have hall1 : ∀ y ∈ l.take (k + 1), y.length ≤ 65536 := by
          intro y hy
          rw [hlx] at hy
          rcases List.mem_append.1 hy with h | h
          · exact hx.out y h
          · obtain rfl : y = x := by simpa using h
            exact hsm
        have hq : (frame x).length ≤ 65549 := frame_len x hsm
        have hp : (cat (l.take k)).length ≤ 65549 * k := by
          have h1 := cat_len (l.take k) hx.out
          have h2 : (l.take k).length ≤ k := by simp; omega
          have := Nat.mul_le_mul_left 65549 h2
          omega
        have hkb : k ≤ 8796093022208 := Nat.le_trans hk Hn.out
        have hsum : (cat (l.take k)).length + (frame x).length ≤ 9223372036854775807 := by omega
        obtain ⟨P, hP⟩ := hide (cat (l.take k))
        obtain ⟨Q, hQ⟩ := hide (frame x)
        rw [hP.out] at hcat hsum ⊢
        rw [hQ.out] at hcat hsum HF
        have Hall1 := Lib.hid hall1
        have Hcat := Lib.hid hcat
        have Hkb := Lib.hid hkb
        clear e1 e2 hlx hE hbig hsm hall1 hq hp hkb hcat
        go_wp2_with fail
        refine HF.out.mono ?_
        rintro e w1 ⟨rfl, hb1⟩
        have hcw1 : w1.cell? ⟨b, off + k, none⟩ = some (str x) := by rw [hb1.cell (p := ⟨b, off + k, none⟩) hbw]; exact hcw
        have Ho1 := Lib.hid (own_below ho.out hb1)
        have Hb1 : Hid (Below (B + 1) W0 w1) := hb.out.trans (hb1.mono hBw)
        have hBw1 : B + 1 ≤ w1.heap.size := Nat.le_trans hBw hb1.size
        clear hb1 hcw
        go_wp2_with (at_builtin; refine wpList_push rfl _ _ 25 rfl (B + 1) 3 (.int .i64 0) 1 8 Try.underlying25 info_int rfl (by decide) _ _ _ rfl Ho1.out _ rfl rfl (by intro u hu; simp at hu; subst hu; rfl) (by have := Hkb.out; unfold maxLen; omega) (by have := Hkb.out; omega) hBw1 ?_)
        intro v' w2 ho2 hg2
        obtain ⟨a2, c2, rfl⟩ := owns_slice ho2
        have Hb2 : Hid (Below (B + 1) W0 w2) := Hb1.out.trans (below_own Ho1.out hg2 (Nat.le_refl _) hBw1)
        have Ho2 : Hid (w2.ownsRow (B + 1) 3 1 (.slice a2 (k + 1) c2) (k + 1) ((endsL l (k + 1)).map vNat)) := by
          have e3 : catE l (k + 1) = (P ++ Q).length := by rw [catE, Hcat.out]
          have e4 : (endsL l (k + 1)).map vNat = (endsL l k).map vNat ++ [.int .i64 ((P ++ Q).length : Nat)] := by rw [endsL_succ, List.map_append, e3]; rfl
          show World.ownsRow _ _ _ _ _ _ _
          rw [e4]
          have h := ho2
          simpa using h
        clear ho2 hg2
        have hkb2 : k ≤ 8796093022208 := Hkb.out
        clear hsum t0 hBw hBw1 hbw HF
        go_wp2_with fail
        go_roundw
        case rel => exact ⟨k + 1, by go_num, hlt, by rw [Hcat.out], Ho2, Hb2, Hall1⟩
        case measure =>
          simp [intOf]
          omega
    · have hkn : k = l.length := by omega
      have e1 : cat (l.take k) = cat l := by rw [hkn, List.take_length]
      have hx2 : ∀ x ∈ l, x.length ≤ 65536 := by have := hx.out; rwa [hkn, List.take_length] at this
      rw [e1]
      have Hx := Lib.hid hx2
      have hS : (cat l).length ≤ 576601446486147072 := by
        have := cat_len l hx2
        have := Hn.out
        omega
      have Ho := Lib.hid ho.out
      have Hb := Lib.hid hb.out
      obtain ⟨S, hSS⟩ := hide (cat l)
      rw [hSS.out] at hS ⊢
      have hw1 : wrap64 ((S.length : Int) + 1) = (S.length : Int) + 1 := IntWalk.wrap64_in _ ⟨by omega, by omega⟩
      have HPk := Lib.hid (pick_any at' ((S.length : Int) + 1) wr (by omega) (by omega))
      have hpl := pickN_lt (c := at') (n := (S.length : Int) + 1) (by omega)
      obtain ⟨c, hcc⟩ := hide (pickN at' ((S.length : Int) + 1))
      rw [hcc.out] at HPk hpl
      have hcS : c ≤ S.length := by omega
      have Hkn := Lib.hid hkn
      have HI : Hid (Ints wr (.slice ae k ce) (ints (endsL l k))) := Ints.of_own (n := k) (base := B + 1) (e := 3) (by rw [ints_map]; exact ho.out)
      have hck : c ≤ (cat l).length := by rw [hSS.out]; exact hcS
      have hSn := hS
      clear hS hpl hx2 e1 hkn hx ho hb
      go_wp2_with fail
      refine HPk.out.mono ?_
      rintro e w' ⟨rfl, rfl⟩
      have hr0 : restAt l c 0 = S.take c := by rw [restAt_zero, hSS.out]
      obtain ⟨V, rfl⟩ : ∃ V, V = wr := ⟨wr, rfl⟩
      have HSc : Hid (S.length ≤ 576601446486147072) := hSn
      have HBV : Hid (B + 1 ≤ V.heap.size) := by have h1 := Hb.out.size; have h2 := Hs0.out; show _ ≤ _; omega
      have Hin : Hid (∀ wx, Below V.heap.size V wx → Below B w wx) := fun wx h => Hall.out.trans (h.mono (by have := Hall.out.size; have := hB.out; omega))
      clear hSn
      go_upto_block 2 with fail
      go_cut [13] (fun r wx => ∃ j : Nat, r = str (restAt l c j) ∧ Hid (j ≤ l.length) ∧ Hid (catE l j ≤ c) ∧ Hid (j = l.length ∨ c < catE l (j + 1)) ∧ Hid (Below V.heap.size V wx))
      case first =>
        go_wp2_with fail
        go_loopw [13, 14] (fun r i wx => ∃ j : Nat, i = .int .i64 j ∧ j ≤ l.length ∧ Hid (catE l j ≤ c) ∧ r = str (restAt l c j) ∧ Hid (Below V.heap.size V wx)) (fun _ i _ => l.length - (intOf i).toNat)
        case atStart => exact ⟨0, rfl, Nat.zero_le _, Nat.zero_le _, by rw [hr0], Below.refl _ _⟩
        case round =>
          obtain ⟨j, rfl, hj, hjc, rfl, hb⟩ := hrel
          by_cases hjl : j < l.length
          · obtain ⟨b, off, rfl, hcell⟩ := HC.out (str_ne hjl)
            have hcell := hcell j l[j] (by simp [hjl])
            have hcw : wr.cell? ⟨b, off + j, none⟩ = some (str l[j]) := by
              rw [(Hin.out _ hb.out).cell (p := ⟨b, off + j, none⟩) (by rw [← hB.out]; exact World.block_lt_of_cell? _ _ hcell)]; exact hcell
            obtain ⟨be, oe, rfl, hce⟩ := Ints_cell (HI.out.mono hb.out) j (catE l (j + 1) : Nat) (by rw [endsL_int, if_pos (by rw [Hkn.out]; exact hjl)])
            have hjk : j < k := by rw [Hkn.out]; exact hjl
            have hlx : l[j].length ≤ 65536 := Hx.out _ (List.getElem_mem _)
            have hjb : j ≤ 8796093022208 := Nat.le_trans hj Hn.out
            clear hcell
            by_cases hle : catE l (j + 1) ≤ c
            · have HU := Lib.hid (wire_unframe (restAt l c j) wr (by have h1 := restAt_len l c j; rw [hSS.out] at h1; have h2 := HSc.out; omega))
              rw [restAt_whole l c j hjl hlx hle] at HU
              obtain ⟨x, hX⟩ := hide l[j]
              obtain ⟨E, hE⟩ := hide (catE l (j + 1))
              obtain ⟨R, hR⟩ := hide (restAt l c j)
              obtain ⟨R2, hR2⟩ := hide (restAt l c (j + 1))
              rw [hX.out] at hcw HU
              rw [hE.out] at hce hle
              rw [hR.out] at HU ⊢
              rw [hR2.out] at HU
              have hbw := World.block_lt_of_cell? _ _ hcw
              clear hlx
              have HLE := Lib.hid hle
              go_wp2_with fail
              refine HU.out.mono ?_
              clear hce
              rintro e w1 ⟨rfl, hb1⟩
              have hcw1 : w1.cell? ⟨b, off + j, none⟩ = some (str x) := by rw [hb1.cell (p := ⟨b, off + j, none⟩) hbw]; exact hcw
              have Hb1 : Hid (Below V.heap.size V w1) := hb.out.trans (hb1.mono hb.out.size)
              clear hb1 hcw hle
              simp only [gotB, gotR, gotZ]
              go_wp2_with fail
              go_roundw
              case rel => exact ⟨j + 1, by go_num, hjl, by rw [hE.out]; exact HLE.out, by rw [hR2.out], Hb1⟩
              case measure =>
                simp [intOf]
                omega
            · have Hlt : Hid (c < catE l (j + 1)) := Nat.lt_of_not_le hle
              obtain ⟨E, hE⟩ := hide (catE l (j + 1))
              rw [hE.out] at hce hle
              clear hcw hlx
              go_wp2_with fail
              go_meet
              case rel => exact ⟨j, rfl, hj, hjc, Or.inr Hlt.out, hb⟩
          · have hje : j = l.length := by omega
            have Hje := Lib.hid hje
            clear hje
            go_wp2_with fail
            go_meet
            case rel => exact ⟨j, rfl, hj, hjc, Or.inl Hje.out, hb⟩
      case rest =>
        obtain ⟨j, rfl, hj, hjc, hje, hb⟩ := hcut
        have HU := Lib.hid (wire_unframe (restAt l c j) wc (by have h1 := restAt_len l c j; rw [hSS.out] at h1; have h2 := HSc.out; omega))
        rw [restAt_end l c j hj.out Hx.out hjc.out hje.out] at HU
        obtain ⟨R, hR⟩ := hide (restAt l c j)
        rw [hR.out] at HU ⊢
        go_wp2_with fail
        refine HU.out.mono ?_
        rintro e w1 ⟨rfl, hb1⟩
        have Hb1 : Hid (Below V.heap.size V w1) := hb.out.trans (hb1.mono hb.out.size)
        clear hb1
        simp only [gotB, gotR, gotZ]
        have hs5 := HSc.out
        go_upto_region 26 with fail
        obtain ⟨Bd, hBd⟩ := hide (98 :: 111 :: 100 :: 121 :: S)
        rw [hBd.out]
        by_cases hbig : 65536 < Bd.length
        · have t0 : decide ((65536 : Int) < (Bd.length : Int)) = true := decide_eq_true (by omega)
          clear hbig
          go_wp2_with fail
          exact HPt.out _ (Hin.out _ Hb1.out)
        · have t0 : decide ((65536 : Int) < (Bd.length : Int)) = false := decide_eq_false (by omega)
          have hb4 : 4 ≤ Bd.length := by rw [← hBd.out]; simp
          have hb5 : Bd.length ≤ 65536 := by omega
          have HF := wire_frame Bd w1 (by omega)
          have e1 : frameB Bd = frame Bd := if_neg hbig
          have e2 : frameE Bd = 0 := if_neg hbig
          rw [e1, e2] at HF
          have HF := Lib.hid HF
          clear e1 e2
          obtain ⟨hd, HHd⟩ := hide (putNum Bd.length).length
          have hfl : (frame Bd).length = hd + Bd.length + 4 := by rw [← HHd.out]; simp [frame, putText, sumBytes_length]; omega
          have hhd : hd ≤ 9 := by rw [← HHd.out]; exact putNum_len10 (by omega)
          have HPk2 := Lib.hid (fun w0 => pick_any at' (Bd.length : Int) w0 (by omega) (by omega))
          have hpl := pickN_lt (c := at') (n := (Bd.length : Int)) (by omega)
          obtain ⟨fr, hfr⟩ := hide (pickN at' (Bd.length : Int))
          rw [hfr.out] at HPk2 hpl
          have hfB : fr < Bd.length := by omega
          obtain ⟨Q, hQ⟩ := hide (frame Bd)
          have hfl' := hfl
          rw [hQ.out] at hfl HF
          clear hbig hs5 hpl
          go_wp2_with fail
          refine HF.out.mono ?_
          rintro e w2 ⟨rfl, hb2⟩
          have Hb2 : Hid (Below V.heap.size V w2) := Hb1.out.trans (hb2.mono Hb1.out.size)
          clear hb2
          have kc := run_bytes_of_string (P := Try.prog) w2 9 80 5 ⟨Q.toArray⟩ Try.underlying9 Try.underlying80 Try.underlying5
          have hT := TB.new w2 Q
          have hsz : (⟨Q.toArray⟩ : ByteArray).size = Q.length := by simp [ByteArray.size]
          rw [hsz] at kc
          have hbW : Below V.heap.size V (w2.drew.alloc (.cells (bytesRow ⟨Q.toArray⟩ (grownCap w2 Q.length 0 5)) 5 ((bytesRow ⟨Q.toArray⟩ (grownCap w2 Q.length 0 5)).size, (bytesRow ⟨Q.toArray⟩ (grownCap w2 Q.length 0 5)).size + 1))) :=
            (below_drewN Hb2.out 1).alloc Hb2.out.size _
          obtain ⟨W3, hW3⟩ := hide (w2.drew.alloc (.cells (bytesRow ⟨Q.toArray⟩ (grownCap w2 Q.length 0 5)) 5 ((bytesRow ⟨Q.toArray⟩ (grownCap w2 Q.length 0 5)).size, (bytesRow ⟨Q.toArray⟩ (grownCap w2 Q.length 0 5)).size + 1)))
          rw [hW3.out] at kc hT hbW
          obtain ⟨T, hTn⟩ := hide w2.heap.size
          rw [hTn.out] at kc hT
          have HVT : Hid (V.heap.size ≤ T) := by have := Hb2.out.size; have := hTn.out; show _ ≤ _; omega
          obtain ⟨cp, hcp⟩ := hide (grownCap w2 Q.length 0 5)
          rw [hcp.out] at kc
          rw [← turnX_nil Bd fr] at hQ
          have HT : Hid (TB W3 T (turnX Bd fr [])) := by show TB _ _ _; rw [hQ.out]; exact hT
          have HbW := Lib.hid hbW
          clear hT hbW
          go_upto_region 31 with fail
          have HPk3 := Lib.hid (HPk2.out W3)
          go_wp2_with fail
          refine HPk3.out.mono ?_
          rintro e w' ⟨rfl, rfl⟩
          clear kc
          have Hm1 : Hid (∀ wx, Below V.heap.size V wx → ∀ n : Nat, n < 4 → ∃ mv : Int, wx.cell? ⟨B, n, none⟩ = some (.int .i64 mv)) := by
            show ∀ wx, _ → ∀ n : Nat, _ → _
            intro wx hwx n hn
            have h1 : wx.heap[B]? = some (.cells #[.int .i64 m0, .int .i64 m1, .int .i64 m2, .int .i64 m3] 78 (0, 0)) := by
              rw [hwx.block B (by have := HBV.out; omega), Hb.out.block B (by omega)]; exact Hm0.out
            obtain ⟨c0, c1, c2, c3⟩ := four_cells' h1
            match n, hn with
            | 0, _ => exact ⟨_, c0⟩
            | 1, _ => exact ⟨_, c1⟩
            | 2, _ => exact ⟨_, c2⟩
            | 3, _ => exact ⟨_, c3⟩
          have HHd2 := HHd.out
          clear HPk HI Hm0 HU HPk2 HPk3 hQ hW3 hr0
          go_upto_block 4 with fail
          go_cut [27] (fun ch wx => ∃ ms : List UInt8, ch = .bool (ms.any (· != 0)) ∧ Hid (ms.length ≤ 4) ∧ Hid (fr + ms.length ≤ Bd.length) ∧ Hid (TB wx T (turnX Bd fr ms)) ∧ Hid (Below V.heap.size V wx))
          case first =>
            go_wp2_with fail
            go_loopw [27, 28] (fun ch i wx => ∃ ms : List UInt8, i = .int .i64 (ms.length : Nat) ∧ ch = .bool (ms.any (· != 0)) ∧ ms.length ≤ 4 ∧ fr + ms.length ≤ Bd.length ∧ Hid (TB wx T (turnX Bd fr ms)) ∧ Hid (Below V.heap.size V wx)) (fun _ i _ => 4 - (intOf i).toNat)
            case atStart => exact ⟨[], rfl, rfl, by simp, by simpa using Nat.le_of_lt hfB, HT.out, HbW.out⟩
            case round =>
              obtain ⟨ms, rfl, rfl, hm4, hmB, ht, hb⟩ := hrel
              by_cases hlt : ms.length < 4
              · by_cases hlt2 : fr + ms.length < Bd.length
                · have t1 : decide (fr + ms.length < Bd.length) = true := decide_eq_true hlt2
                  obtain ⟨mv, hmv⟩ := Hm1.out _ hb.out ms.length hlt
                  have hx := ht.out.cell (turnX_get Bd fr ms hlt2)
                  have hfz := ht.out.free (j := (putNum Bd.length).length + fr + ms.length) (by rw [turnX_len, hfl']; omega)
                  rw [HHd2] at hx hfz
                  obtain ⟨x, hX⟩ := hide Bd[fr + ms.length]
                  rw [hX.out] at hx
                  have HP3 := Lib.hid (pick_any mv 256 wr (by decide) (by decide))
                  have hpl := pickN_lt (c := mv) (n := 256) (by decide)
                  obtain ⟨p, hp⟩ := hide (pickN mv 256)
                  rw [hp.out] at HP3 hpl
                  obtain ⟨n, hn⟩ := hide ms.length
                  rw [hn.out] at hmv hx hfz hlt hlt2 ⊢
                  have t2 : decide ((n : Int) < 4) = true := decide_eq_true (by omega)
                  have t3 : decide ((fr : Int) + (n : Int) < (Bd.length : Int)) = true := decide_eq_true (by omega)
                  clear t1
                  go_wp2_with fail
                  have hpn : p < 256 := by omega
                  have HTn : Hid (TB (wr.setCell ⟨T, hd + fr + n, none⟩ (.int .u8 (bits .xor .u8 (x.toNat : Int) (p : Int)))) T (turnX Bd fr (ms ++ [UInt8.ofNat p]))) := by
                    show TB _ _ _
                    have h1 := ht.out.set (j := (putNum Bd.length).length + fr + ms.length) (by rw [turnX_len, hfl']; have := hn.out; omega) (x ^^^ UInt8.ofNat p)
                    have h2 := turnX_step Bd fr ms (UInt8.ofNat p) (by rw [hn.out]; exact hlt2)
                    rw [hX.out] at h2
                    rw [h2, HHd2, hn.out] at h1
                    rw [u8_xor_p x hpn]
                    exact h1
                  have hlb : T < wr.heap.size := by
                    obtain ⟨C, h1, _⟩ := ht.out
                    exact lt_of_block h1
                  have HBn : Hid (Below V.heap.size V (wr.setCell ⟨T, hd + fr + n, none⟩ (.int .u8 (bits .xor .u8 (x.toNat : Int) (p : Int))))) := hb.out.setCell (p := ⟨T, hd + fr + n, none⟩) HVT.out _
                  have HA : Hid (((ms ++ [UInt8.ofNat p]).any (· != 0)) = (ms.any (· != 0) || ((p : Int) != 0))) := by
                    show _ = _
                    rw [List.any_append, ofNat_ne hpn]
                    simp
                  refine HP3.out.mono ?_
                  rintro e w' ⟨rfl, rfl⟩
                  cases hch : ms.any (· != 0) with
                  | true =>
                    rw [hch] at HA
                    go_wp2_with fail
                    go_roundw
                    case rel => exact ⟨ms ++ [UInt8.ofNat p], by simp [hn.out], by rw [HA.out]; rfl, by simp; have := hn.out; omega, by simp; have := hn.out; omega, HTn, HBn⟩
                    case measure => simp [intOf]; omega
                  | false =>
                    rw [hch] at HA
                    by_cases hp0 : p = 0
                    · have u1 : ((p : Int) != 0) = false := by rw [hp0]; rfl
                      have HA1 : Hid (((ms ++ [UInt8.ofNat p]).any (· != 0)) = false) := by show _ = _; rw [HA.out, u1]; rfl
                      clear hp0
                      go_wp2_with fail
                      go_roundw
                      case rel => exact ⟨ms ++ [UInt8.ofNat p], by simp [hn.out], by rw [HA1.out], by simp; have := hn.out; omega, by simp; have := hn.out; omega, HTn, HBn⟩
                      case measure => simp [intOf]; omega
                    · have u1 : ((p : Int) != 0) = true := by simp; omega
                      have HA1 : Hid (((ms ++ [UInt8.ofNat p]).any (· != 0)) = true) := by show _ = _; rw [HA.out, u1]; rfl
                      clear hp0
                      go_wp2_with fail
                      go_roundw
                      case rel => exact ⟨ms ++ [UInt8.ofNat p], by simp [hn.out], by rw [HA1.out], by simp; have := hn.out; omega, by simp; have := hn.out; omega, HTn, HBn⟩
                      case measure => simp [intOf]; omega
                · have t2 : decide ((ms.length : Int) < 4) = true := decide_eq_true (by omega)
                  have t3 : decide ((fr : Int) + (ms.length : Int) < (Bd.length : Int)) = false := decide_eq_false (by omega)
                  clear hlt2
                  go_wp2_with fail
                  go_meet
                  case rel => exact ⟨ms, rfl, hm4, hmB, ht, hb⟩
              · have t2 : decide ((ms.length : Int) < 4) = false := decide_eq_false (by omega)
                clear hlt
                go_wp2_with fail
                go_meet
                case rel => exact ⟨ms, rfl, hm4, hmB, ht, hb⟩
          case rest =>
            obtain ⟨ms, rfl, hm4, hmB, ht, hb⟩ := hcut
            have kc := run_convert_bytes_back (P := Try.prog) wc 80 9 5 ⟨T, 0, none⟩ cp (turnX Bd fr ms) Try.underlying80 Try.underlying5 Try.underlying9 (fun j hj => by
              have := ht.out.cell (j := j) (x := (turnX Bd fr ms)[j]) (by simp [hj])
              have hadd : (⟨T, 0, none⟩ : Addr).add j = ⟨T, j, none⟩ := by unfold Addr.add; split <;> simp_all
              rw [hadd]; exact this)
            rw [turnX_len, hfl'] at kc
            have HU := Lib.hid (wire_unframe (turnX Bd fr ms) wc (by rw [turnX_len, hfl']; omega))
            cases hch : ms.any (· != 0) with
            | true =>
              rw [turnX_bad Bd fr ms hb5 hm4.out hmB.out hch] at HU
              obtain ⟨X, hX⟩ := hide (turnX Bd fr ms)
              rw [hX.out] at HU kc
              go_wp2_with fail
              refine HU.out.mono ?_
              rintro e w9 ⟨rfl, hb9⟩
              have Hb9 : Hid (Below V.heap.size V w9) := hb.out.trans (hb9.mono hb.out.size)
              clear hb9
              simp only [gotB, gotR, gotZ]
              go_wp2_with fail
              exact HPt.out _ (Hin.out _ Hb9.out)
            | false =>
              rw [turnX_good Bd fr ms hb5 hch] at HU
              obtain ⟨X, hX⟩ := hide (turnX Bd fr ms)
              rw [hX.out] at HU kc
              go_wp2_with fail
              refine HU.out.mono ?_
              rintro e w9 ⟨rfl, hb9⟩
              have Hb9 : Hid (Below V.heap.size V w9) := hb.out.trans (hb9.mono hb.out.size)
              clear hb9
              simp only [gotB, gotR, gotZ]
              go_wp2_with fail
              exact HPt.out _ (Hin.out _ Hb9.out)
end Go.Proofs.Ytbonmeogmjfkeaa
