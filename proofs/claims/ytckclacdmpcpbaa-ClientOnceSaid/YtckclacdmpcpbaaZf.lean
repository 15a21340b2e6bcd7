/-
  ClientOnce: a client asks each thing under one number till it has an answer: the law answers true whatever the script is.
-/
import Derived.Test.YtckclacdmpcpbaaZm
import Derived.Deep.CutBlock
namespace Go.Proofs.Ytckclacdmpcpbaa
open Go.RowKit Wm Mm Clt
set_option linter.unusedVariables false
set_option linter.unusedSimpArgs false

set_option maxHeartbeats 8000000 in
set_option maxRecDepth 100000 in
theorem law_clientOnce (nodes : Int) (v : Value) (l : List AnsP) (F : Nat → Prop) (w : World) (hv : Sl 6 RAns F w v l) (hnd : i64c nodes) (hr : ∀ x ∈ l, i64c x.tok ∧ i64c x.kind ∧ i64c x.ver ∧ x.keys.length ≤ 8796093022000) :
    Calls Try.prog 5 #[.int .i64 nodes, v] w fun e w' => e = .returned (.bool true) ∧ Below w.heap.size w w' := by
  obtain ⟨post, HP⟩ := hide (fun (e : Ending) (w' : World) => e = .returned (.bool true) ∧ Below w.heap.size w w')
  rw [HP.out]
  have HPo : Hid (∀ w', Below w.heap.size w w' → post (.returned (.bool true)) w') := fun w' hb => by rw [← HP.out]; exact ⟨rfl, hb⟩
  obtain ⟨G, hG⟩ := hide (fun g => F g ∧ g < w.heap.size)
  have HG : Hid (∀ g, G g → g < w.heap.size) := fun g hg => by rw [← hG.out] at hg; exact hg.2
  have hv2 : Sl 6 RAns G w v l := by rw [← hG.out]; exact hv.weak RAns.good (fun k h1 h2 => ⟨h1, h2⟩)
  obtain ⟨ao, cap, rfl, hcap, hmax⟩ := hv2.slice
  obtain ⟨n, hn⟩ := hide l.length
  have HF : Hid (∀ w', Below w.heap.size w w' → Sl 6 RAns G w' (.slice ao n cap) l) := fun w' hb => by rw [← hn.out]; exact hv2.frame RAns.good (Agree.below hb)
  rw [hn.out] at hmax hcap
  rw [hn.out]
  have Hr := Lib.hid hr
  obtain ⟨p, hp⟩ : ∃ p : Nat, nodes % 5 = (p : Int) := ⟨(nodes % 5).toNat, by omega⟩
  have hp5 : p < 5 := by omega
  have KP : Hid (∀ w1, Calls Try.prog 31 #[.int .i64 nodes, .int .i64 5] w1 fun e w2 => e = .returned (.int .i64 (p : Int)) ∧ w1 = w2) := fun w1 => by rw [← hp]; exact pickC_law nodes 5 w1 (by omega) (by omega) hnd
  clear hv hv2 hcap hr hnd hp
  go_enter Try.func5, Try.ntmps5
  by_cases hbig : n ≤ 16384
  rotate_left
  · go_wp2_with fail
    exact HPo.out _ (Below.refl _ _)
  go_wp2_with fail
  go_loopw [5, 6] (fun s5 s6 wr => ∃ (k : Nat) (a : Option Addr) (c : Nat), s6 = .int .i64 ((k : Int) + 1) ∧ k ≤ p + 1 ∧ s5 = .slice a k c ∧ Hid (wr.ownsRow w.heap.size 3 1 (.slice a k c) k (nodesL k)) ∧ Hid (Below w.heap.size w wr)) (fun _ s6 _ => p + 2 - (intOf s6).toNat)
  case atStart => exact ⟨0, none, 0, rfl, Nat.zero_le _, rfl, World.ownsRow_nil _ _ _ _, Below.refl _ _⟩
  case round =>
    obtain ⟨k, a, c, rfl, hk, rfl, ho, hb⟩ := hrel
    have hwr1 : IntKind.i64.wrap (1 + (p : Int)) = 1 + (p : Int) := IntWalk.i64_in _ (by omega)
    by_cases hlt : k < p + 1
    · have t1 : decide ((k : Int) + 1 ≤ 1 + (p : Int)) = true := decide_eq_true (by omega)
      have hSz : Hid (w.heap.size ≤ wr.heap.size) := hb.out.size
      go_wp2_with (first | (go_at_call 31; refine (KP.out _).mono ?_; rintro e w' ⟨rfl, rfl⟩) | (at_builtin; refine wpList_push rfl _ _ 63 rfl w.heap.size 3 _ 1 8 Try.underlying63 info_intC rfl (by decide) _ _ _ rfl ho.out _ rfl rfl (rowZ_one _) (by unfold maxLen; omega) (by omega) hSz.out ?_))
      intro v' w2 ho2 hg2
      obtain ⟨a2, c2, rfl⟩ := owns_slice ho2
      have Ho2 : Hid (w2.ownsRow w.heap.size 3 1 (.slice a2 (k + 1) c2) (k + 1) (nodesL (k + 1))) := by
        show World.ownsRow _ _ _ _ _ _ _
        rw [show nodesL (k + 1) = nodesL k ++ [.int .i64 ((k : Int) + 1)] from by unfold nodesL; rw [List.range_succ, List.map_append]; rfl]
        exact ho2
      have Hb2 : Hid (Below w.heap.size w w2) := hb.out.trans (below_own ho.out hg2 (Nat.le_refl _) hSz.out)
      clear ho2 hg2
      go_wp2_with fail
      go_roundw
      case rel => exact ⟨k + 1, a2, c2, by go_num, by omega, rfl, Ho2, Hb2⟩
      case measure => simp [intOf]; omega
    · obtain ⟨m, hm⟩ : ∃ m, m = p + 1 := ⟨_, rfl⟩
      have hkm : k = m := by omega
      subst hkm
      have t1 : decide ((k : Int) + 1 ≤ 1 + (p : Int)) = false := decide_eq_false (by omega)
      have hk1 : 1 ≤ k := by omega
      have hk9 : k ≤ 9 := by omega
      have hSl : Sl 1 (Plain rowZ) (fun _ => True) wr (.slice a k c) (nodesZ k) := by
        refine Sl.own rowZ rowZ_len (S := w.heap.size) (e := 3) ?_ (fun _ _ => rfl) (fun _ _ _ _ => trivial)
        rw [nodesZ_len, nodesZ_rows]
        exact ho.out
      have KN := Lib.hid (newC_law _ k _ wr hSl hk1 hk9)
      have Hm := Lib.hid hm
      clear hSl hm hlt hk
      obtain ⟨V0, hV0⟩ : ∃ V, V = wr := ⟨_, rfl⟩
      subst hV0
      go_wp2_with (go_at_call 31; refine (KP.out _).mono ?_; rintro e w' ⟨rfl, rfl⟩)
      refine KN.out.mono ?_
      rintro e w1 ⟨C, rfl, hx1, hC1, hb1⟩
      obtain ⟨W2, hW2⟩ := hide (w1.alloc (.cells #[.int .i64 0, .string ⟨#[]⟩, .string ⟨#[]⟩, .int .i64 0] 69))
      obtain ⟨A, hA⟩ := hide w1.heap.size
      have Hb1 : Hid (Below w.heap.size w w1) := hb.out.trans (hb1.mono hb.out.size)
      have HS2 : Hid (Cl0 w W2 C A (newC k) zeroCmd) := by
        have hbW : Below w1.heap.size w1 W2 := by rw [← hW2.out]; exact (Below.refl _ _).alloc (Nat.le_refl _) _
        exact ⟨hx1.new hbW, by rw [← hW2.out, ← hA.out]; exact hp_at _ _ rfl, Nat.le_trans hb.out.size hC1, by rw [← hA.out]; exact Hb1.out.size, Hb1.out.trans (hbW.mono Hb1.out.size)⟩
      clear hx1 hC1 hb1 KN
      go_upto_region 14 with fail
      rw [hW2.out, hA.out]
      go_wp2_with fail
      go_loopw [9, 10, 12, 13] (fun s9 s10 s12 s13 wr => ∃ (i s nn : Nat) (cl : CliP) (asked : CmdC), s13 = .int .i64 i ∧ s9 = .int .i64 s ∧ s10 = .int .i64 nn ∧ s12 = .int .i64 (cl.last : Int) ∧ i ≤ n ∧ Hid (Cl0 w wr C A cl asked) ∧ Hid (OkC (4 * i) cl) ∧ Hid (Sees cl s nn asked) ∧ Hid (cl.res = false) ∧ cl.m = k ∧ nn ≤ 4 * i + 1 ∧ s ≤ 50) (fun _ _ _ s _ => n - (intOf s).toNat)
      case atStart => exact ⟨0, 0, 0, newC k, zeroCmd, rfl, rfl, rfl, rfl, Nat.zero_le _, HS2, OkC.new hk1 hk9, sees_new k zeroCmd, rfl, rfl, Nat.zero_le _, Nat.zero_le _⟩
      case round =>
        obtain ⟨i, s, nn, cl, asked, rfl, rfl, rfl, rfl, hi, hS, hO, hSee, hRes, hclm, hnn, hs50⟩ := hrel
        obtain ⟨V1, hV1⟩ : ∃ V, V = wr := ⟨_, rfl⟩
        subst hV1
        by_cases hlt : i < n
        · obtain ⟨b, off, us, e1, _⟩ := (HF.out _ hS.out.bel).at (k := i) (by rw [hn.out]; exact hlt)
          subst e1
          have hii : (i : Int) < (n : Int) := by omega
          go_upto_block 3 with fail
          refine piece_any (piece_round n cap b off C A i k w l G HF hn.out HG hlt hbig Hr V1 cl asked hs50 hnn hclm hS hO hSee hRes.out _ ?_)
          unfold Hid
          intros
          rename_i wx hr
          obtain ⟨c', s', n', asked', rfl, rfl, rfl, hS', hO', hSee', hR', hm', hn', hs'⟩ := hr
          go_wp2_with fail
          go_roundw
          case rel => exact ⟨i + 1, s', n', c', asked', by go_num, rfl, rfl, rfl, hlt, hS', hO', hSee', hR', hm', hn', hs'⟩
          case measure => simp [intOf]; omega
        · obtain rfl : i = n := by omega
          have HB := Lib.hid (HPo.out _ hS.out.bel)
          go_wp2_with fail
          exact HB.out
end Go.Proofs.Ytckclacdmpcpbaa
