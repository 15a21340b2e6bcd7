/-
  What the plain readers take is what would be written. A plain reader's error is never 0.
-/
import Derived.Test.YtidiodlemjeelaaMsr
import Derived.Test.YtidiodlemjeelaaRqh
import Derived.Test.YtidiodlemjeelaaRg
import Derived.Test.YtidiodlemjeelaaPv
import Derived.Test.YtidiodlemjeelaaWq
namespace Go.Proofs.Ytidiodlemjeelaa
open Go.RowKit Wm Mm Lg
set_option linter.unusedVariables false
set_option linter.unusedSimpArgs false

theorem rdNumAt_strict : ∀ (s : List UInt8) (i a x : Nat) (t : List UInt8), rdNumAt i a s = .ok (x, t) → ∃ m, x = a + m * 2 ^ (7 * i) ∧ s = putNum m ++ t ∧ (0 < i → 0 < m) := by
  intro s
  induction s with
  | nil => intro i a x t h; simp [rdNumAt] at h
  | cons c s ih =>
    intro i a x t h
    have hc : c.toNat < 256 := c.toNat_lt
    rw [rdNumAt] at h
    split at h
    · cases h
    rename_i hb
    have hb1 : 0 < i → c.toNat ≠ 0 := fun h1 h2 => hb (Or.inl ⟨h1, h2⟩)
    split at h
    · rename_i hlt
      cases h
      refine ⟨c.toNat, by rw [Nat.mod_eq_of_lt hlt], ?_, fun h => Nat.pos_of_ne_zero (hb1 h)⟩
      rw [putNum_small hlt]
      simp
    · rename_i hge
      obtain ⟨m, h1, h2, h3⟩ := ih _ _ _ _ h
      have hm : 0 < m := h3 (Nat.succ_pos _)
      refine ⟨c.toNat % 128 + 128 * m, ?_, ?_, fun _ => by omega⟩
      · rw [h1, Nat.add_mul, show 7 * (i + 1) = 7 * i + 7 from by omega, Nat.pow_add, Nat.add_assoc]
        congr 2
        rw [Nat.mul_comm 128 m, Nat.mul_assoc, Nat.mul_comm (2 ^ (7 * i)) (2 ^ 7)]
      · have e1 : ¬ (c.toNat % 128 + 128 * m < 128) := by omega
        have e2 : (c.toNat % 128 + 128 * m) % 128 = c.toNat % 128 := by omega
        have e3 : (c.toNat % 128 + 128 * m) / 128 = m := by omega
        have e4 : 128 + c.toNat % 128 = c.toNat := by omega
        rw [putNum_big e1, e2, e3, e4, h2]
        simp
theorem rdNum_strict {s t : List UInt8} {n : Nat} (h : rdNum s = .ok (n, t)) : s = putNum n ++ t := by
  obtain ⟨m, h1, h2, _⟩ := rdNumAt_strict s 0 0 n t h
  have : n = m := by simpa using h1
  rw [this]; exact h2
theorem rdTake_strict {s x t : List UInt8} {n : Nat} (h : rdTake n s = .ok (x, t)) : s = x ++ t ∧ x.length = n := by
  unfold rdTake at h
  split at h
  · cases h
  · cases h
    exact ⟨(List.take_append_drop n s).symm, by simp; omega⟩
theorem rdUpTo_strict {s t : List UInt8} {n most : Nat} (h : rdUpTo most s = .ok (n, t)) : s = putNum n ++ t ∧ n ≤ most := by
  unfold rdUpTo at h
  cases h1 : rdNum s with
  | error z => rw [h1] at h; cases h
  | ok p =>
    obtain ⟨m, u⟩ := p
    rw [h1] at h
    simp only [] at h
    split at h
    · cases h
    · cases h; exact ⟨rdNum_strict h1, by omega⟩
theorem rdText_strict {s x t : List UInt8} {most : Nat} (h : rdText most s = .ok (x, t)) : s = putText x ++ t ∧ x.length ≤ most := by
  unfold rdText at h
  cases h1 : rdUpTo most s with
  | error z => rw [h1] at h; cases h
  | ok p =>
    obtain ⟨m, u⟩ := p
    rw [h1] at h
    obtain ⟨e1, h2⟩ := rdUpTo_strict h1
    obtain ⟨e2, h3⟩ := rdTake_strict h
    refine ⟨?_, by omega⟩
    rw [e1, e2, putText, h3, List.append_assoc]
theorem rdFlag_strict {s t : List UInt8} {b : Bool} (h : rdFlag s = .ok (b, t)) : s = flagB b ++ t := by
  unfold rdFlag at h
  cases s with
  | nil => cases h
  | cons c s =>
    simp only [] at h
    split at h
    · cases h
    · rename_i hc
      cases h
      by_cases h1 : c.toNat = 1
      · have : c = 1 := UInt8.toNat_inj.1 h1
        simp [flagB, this]
      · have h0 : c.toNat = 0 := by omega
        have : c = 0 := UInt8.toNat_inj.1 h0
        simp [flagB, this]
theorem rdMany_strict : ∀ (k : Nat) (acc l : List Nat) (s t : List UInt8), rdMany k acc s = .ok (l, t) → ∃ r, l = acc ++ r ∧ r.length = k ∧ s = putNums r ++ t := by
  intro k
  induction k with
  | zero => intro acc l s t h; cases h; exact ⟨[], by simp, rfl, by simp [putNums]⟩
  | succ k ih =>
    intro acc l s t h
    rw [rdMany] at h
    cases h1 : rdNum s with
    | error z => rw [h1] at h; cases h
    | ok p =>
      obtain ⟨x, u⟩ := p
      rw [h1] at h
      obtain ⟨r, e1, e2, e3⟩ := ih _ _ _ _ h
      refine ⟨x :: r, by rw [e1]; simp, by simp [e2], ?_⟩
      rw [rdNum_strict h1, e3]
      simp [putNums]
theorem rdList_strict {most : Nat} {l : List Nat} {s t : List UInt8} (h : rdList most s = .ok (l, t)) : s = putList l ++ t := by
  unfold rdList at h
  cases h1 : rdUpTo most s with
  | error z => rw [h1] at h; cases h
  | ok p =>
    obtain ⟨n, u⟩ := p
    rw [h1] at h
    obtain ⟨r, e1, e2, e3⟩ := rdMany_strict _ _ _ _ _ h
    obtain ⟨e4, _⟩ := rdUpTo_strict h1
    rw [List.nil_append] at e1
    rw [e4, e3, e1, putList, e2, List.append_assoc]
theorem rdEnt_strict {e : Ent} {s t : List UInt8} (h : rdEnt s = .ok (e, t)) : s = putEnt e.index e.term e.kind e.data ++ t ∧ isEntry e.index e.term e.kind e.data = true := by
  unfold rdEnt at h
  cases h1 : rdNum s with
  | error z => rw [h1] at h; cases h
  | ok p =>
  obtain ⟨i, s1⟩ := p
  rw [h1] at h
  simp only [] at h
  cases h2 : rdNum s1 with
  | error z => rw [h2] at h; cases h
  | ok p =>
  obtain ⟨u, s2⟩ := p
  rw [h2] at h
  simp only [] at h
  cases h3 : rdNum s2 with
  | error z => rw [h3] at h; cases h
  | ok p =>
  obtain ⟨k, s3⟩ := p
  rw [h3] at h
  simp only [] at h
  cases h4 : rdText 256 s3 with
  | error z => rw [h4] at h; cases h
  | ok p =>
  obtain ⟨d, s4⟩ := p
  rw [h4] at h
  simp only [] at h
  split at h
  · rename_i hok
    cases h
    refine ⟨?_, hok⟩
    rw [rdNum_strict h1, rdNum_strict h2, rdNum_strict h3, (rdText_strict h4).1]
    simp [putEnt]
  · cases h
theorem rdConf_strict {c : Conf} {s t : List UInt8} (h : rdConf s = .ok (c, t)) : s = putConf c ++ t ∧ validB c = true := by
  unfold rdConf at h
  cases h1 : rdList 9 s with
  | error z => rw [h1] at h; cases h
  | ok p =>
  obtain ⟨i, s1⟩ := p
  rw [h1] at h
  simp only [] at h
  cases h2 : rdList 9 s1 with
  | error z => rw [h2] at h; cases h
  | ok p =>
  obtain ⟨u, s2⟩ := p
  rw [h2] at h
  simp only [] at h
  cases h3 : rdList 9 s2 with
  | error z => rw [h3] at h; cases h
  | ok p =>
  obtain ⟨k, s3⟩ := p
  rw [h3] at h
  simp only [] at h
  split at h
  · rename_i hok
    cases h
    refine ⟨?_, hok⟩
    rw [rdList_strict h1, rdList_strict h2, rdList_strict h3, putConf]
    simp only [natL_ints, List.append_assoc]
  · cases h
theorem rdSnap_strict {q : Snap} {s t : List UInt8} (h : rdSnap s = .ok (q, t)) : s = putSnap q.index q.term q.conf q.data ++ t ∧ isSnap q.index q.term q.conf q.data = true := by
  unfold rdSnap at h
  cases h1 : rdNum s with
  | error z => rw [h1] at h; cases h
  | ok p =>
  obtain ⟨i, s1⟩ := p
  rw [h1] at h
  simp only [] at h
  cases h2 : rdNum s1 with
  | error z => rw [h2] at h; cases h
  | ok p =>
  obtain ⟨u, s2⟩ := p
  rw [h2] at h
  simp only [] at h
  cases h3 : rdConf s2 with
  | error z => rw [h3] at h; cases h
  | ok p =>
  obtain ⟨k, s3⟩ := p
  rw [h3] at h
  simp only [] at h
  cases h4 : rdText 8192 s3 with
  | error z => rw [h4] at h; cases h
  | ok p =>
  obtain ⟨d, s4⟩ := p
  rw [h4] at h
  simp only [] at h
  split at h
  · rename_i hok
    cases h
    refine ⟨?_, hok⟩
    rw [rdNum_strict h1, rdNum_strict h2, (rdConf_strict h3).1, (rdText_strict h4).1]
    simp [putSnap]
  · cases h
theorem rdEnts_strict : ∀ (k : Nat) (acc l : List EntP) (s t : List UInt8), rdEnts k acc s = .ok (l, t) → ∃ r, l = acc ++ r ∧ r.length = k ∧ s = putEnts r ++ t := by
  intro k
  induction k with
  | zero => intro acc l s t h; cases h; exact ⟨[], by simp, rfl, by simp [putEnts]⟩
  | succ k ih =>
    intro acc l s t h
    rw [rdEnts] at h
    cases h1 : rdEnt s with
    | error z => rw [h1] at h; cases h
    | ok p =>
      obtain ⟨x, u⟩ := p
      rw [h1] at h
      obtain ⟨r, e1, e2, e3⟩ := ih _ _ _ _ h
      refine ⟨entOf x :: r, by rw [e1]; simp, by simp [e2], ?_⟩
      rw [(rdEnt_strict h1).1, e3]
      simp [putEnts]
theorem rdTail_strict {k f d t : Nat} {s u : List UInt8} {m : Msg} (h : rdTail k f d t s = .ok (m, u)) : m.kind = k ∧ m.frm = f ∧ m.dst = d ∧ m.term = t ∧ (isMsg m = true → s = putTail m ++ u) := by
  unfold rdTail at h
  split at h
  · rename_i hk
    unfold rdAsk at h
    cases h1 : rdNum s with
    | error z => rw [h1] at h; cases h
    | ok p =>
    obtain ⟨i, s1⟩ := p
    rw [h1] at h
    simp only [] at h
    cases h2 : rdNum s1 with
    | error z => rw [h2] at h; cases h
    | ok p =>
    obtain ⟨l, s2⟩ := p
    rw [h2] at h
    cases h
    refine ⟨rfl, rfl, rfl, rfl, fun _ => ?_⟩
    rw [putTail, if_pos (by show (k : Int) = 1 ∨ (k : Int) = 3; omega), rdNum_strict h1, rdNum_strict h2]
    simp
  rename_i hk1
  split at h
  · rename_i hk
    unfold rdRep at h
    cases h1 : rdFlag s with
    | error z => rw [h1] at h; cases h
    | ok p =>
    obtain ⟨b, s1⟩ := p
    rw [h1] at h
    cases h
    refine ⟨rfl, rfl, rfl, rfl, fun _ => ?_⟩
    rw [putTail, if_neg (by show ¬ ((k : Int) = 1 ∨ (k : Int) = 3); omega), if_pos (by show (k : Int) = 2 ∨ (k : Int) = 4; omega), rdFlag_strict h1]
  rename_i hk2
  split at h
  · rename_i hk
    unfold rdApp at h
    cases h1 : rdNum s with
    | error z => rw [h1] at h; cases h
    | ok p =>
    obtain ⟨i, s1⟩ := p
    rw [h1] at h
    simp only [] at h
    cases h2 : rdNum s1 with
    | error z => rw [h2] at h; cases h
    | ok p =>
    obtain ⟨l, s2⟩ := p
    rw [h2] at h
    simp only [] at h
    cases h3 : rdNum s2 with
    | error z => rw [h3] at h; cases h
    | ok p =>
    obtain ⟨c, s3⟩ := p
    rw [h3] at h
    simp only [] at h
    cases h4 : rdNum s3 with
    | error z => rw [h4] at h; cases h
    | ok p =>
    obtain ⟨x, s4⟩ := p
    rw [h4] at h
    simp only [] at h
    unfold rdAppE at h
    cases h5 : rdUpTo 8 s4 with
    | error z => rw [h5] at h; cases h
    | ok p =>
    obtain ⟨n, s5⟩ := p
    rw [h5] at h
    simp only [] at h
    cases h6 : rdEnts n [] s5 with
    | error z => rw [h6] at h; cases h
    | ok p =>
    obtain ⟨es, s6⟩ := p
    rw [h6] at h
    cases h
    refine ⟨rfl, rfl, rfl, rfl, fun _ => ?_⟩
    obtain ⟨r, e1, e2, e3⟩ := rdEnts_strict _ _ _ _ _ h6
    rw [List.nil_append] at e1
    subst e1
    rw [putTail, if_neg (by show ¬ ((k : Int) = 1 ∨ (k : Int) = 3); omega), if_neg (by show ¬ ((k : Int) = 2 ∨ (k : Int) = 4); omega), if_neg (by show ¬ (k : Int) = 6; omega), if_neg (by show ¬ (k : Int) = 7; omega), rdNum_strict h1, rdNum_strict h2, rdNum_strict h3, rdNum_strict h4, (rdUpTo_strict h5).1, e3]
    simp [e2]
  rename_i hk3
  split at h
  · rename_i hk
    unfold rdBack at h
    cases h1 : rdNum s with
    | error z => rw [h1] at h; cases h
    | ok p =>
    obtain ⟨i, s1⟩ := p
    rw [h1] at h
    simp only [] at h
    cases h2 : rdFlag s1 with
    | error z => rw [h2] at h; cases h
    | ok p =>
    obtain ⟨l, s2⟩ := p
    rw [h2] at h
    simp only [] at h
    cases h3 : rdNum s2 with
    | error z => rw [h3] at h; cases h
    | ok p =>
    obtain ⟨c, s3⟩ := p
    rw [h3] at h
    simp only [] at h
    cases h4 : rdNum s3 with
    | error z => rw [h4] at h; cases h
    | ok p =>
    obtain ⟨x, s4⟩ := p
    rw [h4] at h
    cases h
    refine ⟨rfl, rfl, rfl, rfl, fun _ => ?_⟩
    rw [putTail, if_neg (by show ¬ ((k : Int) = 1 ∨ (k : Int) = 3); omega), if_neg (by show ¬ ((k : Int) = 2 ∨ (k : Int) = 4); omega), if_pos (by show (k : Int) = 6; omega), rdNum_strict h1, rdFlag_strict h2, rdNum_strict h3, rdNum_strict h4]
    simp
  rename_i hk4
  split at h
  · rename_i hk
    unfold rdInst at h
    cases h1 : rdNum s with
    | error z => rw [h1] at h; cases h
    | ok p =>
    obtain ⟨i, s1⟩ := p
    rw [h1] at h
    simp only [] at h
    cases h2 : rdSnap s1 with
    | error z => rw [h2] at h; cases h
    | ok p =>
    obtain ⟨l, s2⟩ := p
    rw [h2] at h
    cases h
    refine ⟨rfl, rfl, rfl, rfl, fun _ => ?_⟩
    rw [putTail, if_neg (by show ¬ ((k : Int) = 1 ∨ (k : Int) = 3); omega), if_neg (by show ¬ ((k : Int) = 2 ∨ (k : Int) = 4); omega), if_neg (by show ¬ (k : Int) = 6; omega), if_pos (by show (k : Int) = 7; omega), rdNum_strict h1, (rdSnap_strict h2).1]
    simp
  · rename_i hk5
    cases h
    refine ⟨rfl, rfl, rfl, rfl, fun hm => ?_⟩
    exfalso
    simp only [isMsg, headM, Bool.and_eq_true] at hm
    have := inB_of hm.2.1.1
    omega
theorem rdMsg_strict {m : Msg} {s t : List UInt8} (h : rdMsg s = .ok (m, t)) : s = putMsg m ++ t ∧ isMsg m = true := by
  unfold rdMsg at h
  cases h1 : rdNum s with
  | error z => rw [h1] at h; cases h
  | ok p =>
  obtain ⟨k, s1⟩ := p
  rw [h1] at h
  simp only [] at h
  cases h2 : rdNum s1 with
  | error z => rw [h2] at h; cases h
  | ok p =>
  obtain ⟨f, s2⟩ := p
  rw [h2] at h
  simp only [] at h
  cases h3 : rdNum s2 with
  | error z => rw [h3] at h; cases h
  | ok p =>
  obtain ⟨d, s3⟩ := p
  rw [h3] at h
  simp only [] at h
  cases h4 : rdNum s3 with
  | error z => rw [h4] at h; cases h
  | ok p =>
  obtain ⟨x, s4⟩ := p
  rw [h4] at h
  simp only [] at h
  cases h5 : rdTail k f d x s4 with
  | error z => rw [h5] at h; cases h
  | ok p =>
  obtain ⟨m', s5⟩ := p
  rw [h5] at h
  simp only [okMsg] at h
  split at h
  · rename_i hok
    cases h
    obtain ⟨e1, e2, e3, e4, e5⟩ := rdTail_strict h5
    refine ⟨?_, hok⟩
    rw [rdNum_strict h1, rdNum_strict h2, rdNum_strict h3, rdNum_strict h4, e5 hok, putMsg, e1, e2, e3, e4]
    simp
  · cases h
theorem rdCmd_strict {c : Cmd} {s t : List UInt8} (h : rdCmd s = .ok (c, t)) : s = putCmd c.kind c.key c.val c.iff ++ t := by
  unfold rdCmd at h
  cases h1 : rdNum s with
  | error z => rw [h1] at h; cases h
  | ok p =>
  obtain ⟨i, s1⟩ := p
  rw [h1] at h
  simp only [] at h
  cases h2 : rdText 16 s1 with
  | error z => rw [h2] at h; cases h
  | ok p =>
  obtain ⟨u, s2⟩ := p
  rw [h2] at h
  simp only [] at h
  cases h3 : rdText 64 s2 with
  | error z => rw [h3] at h; cases h
  | ok p =>
  obtain ⟨k, s3⟩ := p
  rw [h3] at h
  simp only [] at h
  cases h4 : rdNum s3 with
  | error z => rw [h4] at h; cases h
  | ok p =>
  obtain ⟨d, s4⟩ := p
  rw [h4] at h
  cases h
  rw [rdNum_strict h1, (rdText_strict h2).1, (rdText_strict h3).1, rdNum_strict h4]
  simp [putCmd]
theorem inB_ofNat {n : Nat} (h : n ≤ 1099511627775) : inB (n : Int) 0 1099511627775 = true := by simp [inB]; omega
theorem rdReq_strict {q : Req} {s t : List UInt8} (h : rdReq s = .ok (q, t)) : s = putReq q.client q.number q.cmd.kind q.cmd.key q.cmd.val q.cmd.iff q.time ++ t ∧ okReq q.client q.number q.cmd.kind q.cmd.key q.cmd.val q.cmd.iff q.time = true := by
  unfold rdReq at h
  cases h1 : rdNum s with
  | error z => rw [h1] at h; cases h
  | ok p =>
  obtain ⟨c, s1⟩ := p
  rw [h1] at h
  simp only [] at h
  cases h2 : rdNum s1 with
  | error z => rw [h2] at h; cases h
  | ok p =>
  obtain ⟨n, s2⟩ := p
  rw [h2] at h
  simp only [] at h
  cases h3 : rdNum s2 with
  | error z => rw [h3] at h; cases h
  | ok p =>
  obtain ⟨x, s3⟩ := p
  rw [h3] at h
  simp only [] at h
  have b1 := inB_ofNat (rdNum_lt h1)
  have b2 := inB_ofNat (rdNum_lt h2)
  have b3 := inB_ofNat (rdNum_lt h3)
  split at h
  · rename_i h0
    cases h
    have hok : okReq (c : Int) n 0 [] [] 0 x = true := by
      unfold okReq
      rw [b1, b2, b3, if_pos (by omega)]
      rfl
    refine ⟨?_, hok⟩
    show s = putReq (c : Int) n 0 [] [] 0 x ++ t
    rw [putReq, if_pos hok, if_pos (by omega), rdNum_strict h1, rdNum_strict h2, rdNum_strict h3]
    simp
  · rename_i h0
    cases h4 : rdCmd s3 with
    | error z => rw [h4] at h; cases h
    | ok p =>
    obtain ⟨m, s4⟩ := p
    rw [h4] at h
    simp only [] at h
    split at h
    · rename_i hcmd
      cases h
      have hok : okReq (c : Int) n m.kind m.key m.val m.iff x = true := by
        unfold okReq
        rw [b1, b2, b3, if_neg (by omega), hcmd]
        rfl
      refine ⟨?_, hok⟩
      show s = putReq (c : Int) n m.kind m.key m.val m.iff x ++ t
      rw [putReq, if_pos hok, if_neg (by omega), rdNum_strict h1, rdNum_strict h2, rdNum_strict h3, rdCmd_strict h4]
      simp
    · cases h
theorem rdStrs_strict : ∀ (k : Nat) (acc l : List (List UInt8)) (s t : List UInt8), rdStrs k acc s = .ok (l, t) → ∃ r, l = acc ++ r ∧ r.length = k ∧ s = putKeys r ++ t := by
  intro k
  induction k with
  | zero => intro acc l s t h; cases h; exact ⟨[], by simp, rfl, by simp [putKeys]⟩
  | succ k ih =>
    intro acc l s t h
    rw [rdStrs] at h
    cases h1 : rdText 16 s with
    | error z => rw [h1] at h; cases h
    | ok p =>
      obtain ⟨x, u⟩ := p
      rw [h1] at h
      obtain ⟨r, e1, e2, e3⟩ := ih _ _ _ _ h
      refine ⟨x :: r, by rw [e1]; simp, by simp [e2], ?_⟩
      rw [(rdText_strict h1).1, e3]
      simp [putKeys]
theorem rdRes_strict {r : ResP} {s t : List UInt8} (h : rdRes s = .ok (r, t)) : s = putRes r.kind r.val r.ver r.keys ++ t := by
  unfold rdRes at h
  cases h1 : rdNum s with
  | error z => rw [h1] at h; cases h
  | ok p =>
  obtain ⟨i, s1⟩ := p
  rw [h1] at h
  simp only [] at h
  cases h2 : rdText 64 s1 with
  | error z => rw [h2] at h; cases h
  | ok p =>
  obtain ⟨u, s2⟩ := p
  rw [h2] at h
  simp only [] at h
  cases h3 : rdNum s2 with
  | error z => rw [h3] at h; cases h
  | ok p =>
  obtain ⟨k, s3⟩ := p
  rw [h3] at h
  simp only [] at h
  cases h4 : rdUpTo 32 s3 with
  | error z => rw [h4] at h; cases h
  | ok p =>
  obtain ⟨d, s4⟩ := p
  rw [h4] at h
  simp only [] at h
  cases h5 : rdStrs d [] s4 with
  | error z => rw [h5] at h; cases h
  | ok p =>
  obtain ⟨l, s5⟩ := p
  rw [h5] at h
  cases h
  obtain ⟨q, e1, e2, e3⟩ := rdStrs_strict _ _ _ _ _ h5
  rw [List.nil_append] at e1
  subst e1
  rw [rdNum_strict h1, (rdText_strict h2).1, rdNum_strict h3, (rdUpTo_strict h4).1, e3]
  simp [putRes, e2]
theorem rdPairs_strict : ∀ (k : Nat) (acc l : List PairP) (s t : List UInt8), rdPairs k acc s = .ok (l, t) → ∃ r, l = acc ++ r ∧ r.length = k ∧ s = putPairs r ++ t := by
  intro k
  induction k with
  | zero => intro acc l s t h; cases h; exact ⟨[], by simp, rfl, by simp [putPairs]⟩
  | succ k ih =>
    intro acc l s t h
    rw [rdPairs] at h
    cases h1 : rdText 16 s with
    | error z => rw [h1] at h; cases h
    | ok p =>
    obtain ⟨x, s1⟩ := p
    rw [h1] at h
    simp only [] at h
    cases h2 : rdText 64 s1 with
    | error z => rw [h2] at h; cases h
    | ok p =>
    obtain ⟨y, s2⟩ := p
    rw [h2] at h
    simp only [] at h
    cases h3 : rdNum s2 with
    | error z => rw [h3] at h; cases h
    | ok p =>
    obtain ⟨n, s3⟩ := p
    rw [h3] at h
    obtain ⟨r, e1, e2, e3⟩ := ih _ _ _ _ h
    refine ⟨⟨x, y, n⟩ :: r, by rw [e1]; simp, by simp [e2], ?_⟩
    rw [(rdText_strict h1).1, (rdText_strict h2).1, rdNum_strict h3, e3]
    simp [putPairs, putPair]
theorem rdSess_strict : ∀ (k : Nat) (acc l : List SessP) (s t : List UInt8), rdSess k acc s = .ok (l, t) → ∃ r, l = acc ++ r ∧ r.length = k ∧ s = putSs r ++ t := by
  intro k
  induction k with
  | zero => intro acc l s t h; cases h; exact ⟨[], by simp, rfl, by simp [putSs]⟩
  | succ k ih =>
    intro acc l s t h
    rw [rdSess] at h
    cases h1 : rdNum s with
    | error z => rw [h1] at h; cases h
    | ok p =>
    obtain ⟨x, s1⟩ := p
    rw [h1] at h
    simp only [] at h
    cases h2 : rdNum s1 with
    | error z => rw [h2] at h; cases h
    | ok p =>
    obtain ⟨y, s2⟩ := p
    rw [h2] at h
    simp only [] at h
    cases h3 : rdNum s2 with
    | error z => rw [h3] at h; cases h
    | ok p =>
    obtain ⟨n, s3⟩ := p
    rw [h3] at h
    simp only [] at h
    cases h4 : rdRes s3 with
    | error z => rw [h4] at h; cases h
    | ok p =>
    obtain ⟨a, s4⟩ := p
    rw [h4] at h
    obtain ⟨r, e1, e2, e3⟩ := ih _ _ _ _ h
    refine ⟨⟨x, y, a.kind, a.val, a.ver, a.keys, n⟩ :: r, by rw [e1]; simp, by simp [e2], ?_⟩
    rw [rdNum_strict h1, rdNum_strict h2, rdNum_strict h3, rdRes_strict h4, e3]
    simp [putSs, putSess]
theorem rdTab_strict {q : Tab} {s t : List UInt8} (h : rdTab s = .ok (q, t)) : s = putTab q ++ t ∧ tabB q = true := by
  unfold rdTab at h
  cases h1 : rdNum s with
  | error z => rw [h1] at h; cases h
  | ok p =>
  obtain ⟨tm, s1⟩ := p
  rw [h1] at h
  simp only [] at h
  cases h2 : rdUpTo 32 s1 with
  | error z => rw [h2] at h; cases h
  | ok p =>
  obtain ⟨m, s2⟩ := p
  rw [h2] at h
  simp only [] at h
  cases h3 : rdPairs m [] s2 with
  | error z => rw [h3] at h; cases h
  | ok p =>
  obtain ⟨ps, s3⟩ := p
  rw [h3] at h
  simp only [rdTabS] at h
  cases h4 : rdUpTo 8 s3 with
  | error z => rw [h4] at h; cases h
  | ok p =>
  obtain ⟨n, s4⟩ := p
  rw [h4] at h
  simp only [] at h
  cases h5 : rdSess n [] s4 with
  | error z => rw [h5] at h; cases h
  | ok p =>
  obtain ⟨ss, s5⟩ := p
  rw [h5] at h
  simp only [rdTabE] at h
  split at h
  · rename_i hok
    cases h
    obtain ⟨r, e1, e2, e3⟩ := rdPairs_strict _ _ _ _ _ h3
    rw [List.nil_append] at e1
    subst e1
    obtain ⟨r, e4, e5, e6⟩ := rdSess_strict _ _ _ _ _ h5
    rw [List.nil_append] at e4
    subst e4
    refine ⟨?_, hok⟩
    rw [rdNum_strict h1, (rdUpTo_strict h2).1, e3, (rdUpTo_strict h4).1, e6]
    simp [putTab, e2, e5]
  · cases h
/-- all bytes -/
theorem full_ok {α : Type} {r : Res α} {x : α} (h : full r = .ok x) : r = .ok (x, []) := by
  unfold full at h
  split at h
  · cases h
  · cases h; rfl
  · cases h
end Go.Proofs.Ytidiodlemjeelaa

namespace Go.Proofs.Ytidiodlemjeelaa
open Go.RowKit Wm Mm Lg
set_option linter.unusedVariables false
set_option linter.unusedSimpArgs false

theorem rdTake_err {s : List UInt8} {z : Int} {n : Nat} (h : rdTake n s = .error z) : z ≠ 0 := by
  unfold rdTake at h
  repeat' split at h
  all_goals first | (cases h; done) | (cases h; decide) | (cases h; exact rdNum_err (by assumption)) | (cases h; exact rdMany_err (by assumption)) | (exact rdNum_err h) | (exact rdMany_err h)
theorem rdUpTo_err {s : List UInt8} {z : Int} {most : Nat} (h : rdUpTo most s = .error z) : z ≠ 0 := by
  unfold rdUpTo at h
  repeat' split at h
  all_goals first | (cases h; done) | (cases h; decide) | (cases h; exact rdNum_err (by assumption)) | (cases h; exact rdMany_err (by assumption)) | (cases h; exact rdTake_err (by assumption)) | (exact rdNum_err h) | (exact rdMany_err h) | (exact rdTake_err h)
theorem rdText_err {s : List UInt8} {z : Int} {most : Nat} (h : rdText most s = .error z) : z ≠ 0 := by
  unfold rdText at h
  repeat' split at h
  all_goals first | (cases h; done) | (cases h; decide) | (cases h; exact rdNum_err (by assumption)) | (cases h; exact rdMany_err (by assumption)) | (cases h; exact rdTake_err (by assumption)) | (cases h; exact rdUpTo_err (by assumption)) | (exact rdNum_err h) | (exact rdMany_err h) | (exact rdTake_err h) | (exact rdUpTo_err h)
theorem rdFlag_err {s : List UInt8} {z : Int}  (h : rdFlag  s = .error z) : z ≠ 0 := by
  unfold rdFlag at h
  repeat' split at h
  all_goals first | (cases h; done) | (cases h; decide) | (cases h; exact rdNum_err (by assumption)) | (cases h; exact rdMany_err (by assumption)) | (cases h; exact rdTake_err (by assumption)) | (cases h; exact rdUpTo_err (by assumption)) | (cases h; exact rdText_err (by assumption)) | (exact rdNum_err h) | (exact rdMany_err h) | (exact rdTake_err h) | (exact rdUpTo_err h) | (exact rdText_err h)
theorem rdList_err {s : List UInt8} {z : Int} {most : Nat} (h : rdList most s = .error z) : z ≠ 0 := by
  unfold rdList at h
  repeat' split at h
  all_goals first | (cases h; done) | (cases h; decide) | (cases h; exact rdNum_err (by assumption)) | (cases h; exact rdMany_err (by assumption)) | (cases h; exact rdTake_err (by assumption)) | (cases h; exact rdUpTo_err (by assumption)) | (cases h; exact rdText_err (by assumption)) | (cases h; exact rdFlag_err (by assumption)) | (exact rdNum_err h) | (exact rdMany_err h) | (exact rdTake_err h) | (exact rdUpTo_err h) | (exact rdText_err h) | (exact rdFlag_err h)
theorem rdEnt_err {s : List UInt8} {z : Int}  (h : rdEnt  s = .error z) : z ≠ 0 := by
  unfold rdEnt at h
  repeat' split at h
  all_goals first | (cases h; done) | (cases h; decide) | (cases h; exact rdNum_err (by assumption)) | (cases h; exact rdMany_err (by assumption)) | (cases h; exact rdTake_err (by assumption)) | (cases h; exact rdUpTo_err (by assumption)) | (cases h; exact rdText_err (by assumption)) | (cases h; exact rdFlag_err (by assumption)) | (cases h; exact rdList_err (by assumption)) | (exact rdNum_err h) | (exact rdMany_err h) | (exact rdTake_err h) | (exact rdUpTo_err h) | (exact rdText_err h) | (exact rdFlag_err h) | (exact rdList_err h)
theorem rdConf_err {s : List UInt8} {z : Int}  (h : rdConf  s = .error z) : z ≠ 0 := by
  unfold rdConf at h
  repeat' split at h
  all_goals first | (cases h; done) | (cases h; decide) | (cases h; exact rdNum_err (by assumption)) | (cases h; exact rdMany_err (by assumption)) | (cases h; exact rdTake_err (by assumption)) | (cases h; exact rdUpTo_err (by assumption)) | (cases h; exact rdText_err (by assumption)) | (cases h; exact rdFlag_err (by assumption)) | (cases h; exact rdList_err (by assumption)) | (cases h; exact rdEnt_err (by assumption)) | (exact rdNum_err h) | (exact rdMany_err h) | (exact rdTake_err h) | (exact rdUpTo_err h) | (exact rdText_err h) | (exact rdFlag_err h) | (exact rdList_err h) | (exact rdEnt_err h)
theorem rdSnap_err {s : List UInt8} {z : Int}  (h : rdSnap  s = .error z) : z ≠ 0 := by
  unfold rdSnap at h
  repeat' split at h
  all_goals first | (cases h; done) | (cases h; decide) | (cases h; exact rdNum_err (by assumption)) | (cases h; exact rdMany_err (by assumption)) | (cases h; exact rdTake_err (by assumption)) | (cases h; exact rdUpTo_err (by assumption)) | (cases h; exact rdText_err (by assumption)) | (cases h; exact rdFlag_err (by assumption)) | (cases h; exact rdList_err (by assumption)) | (cases h; exact rdEnt_err (by assumption)) | (cases h; exact rdConf_err (by assumption)) | (exact rdNum_err h) | (exact rdMany_err h) | (exact rdTake_err h) | (exact rdUpTo_err h) | (exact rdText_err h) | (exact rdFlag_err h) | (exact rdList_err h) | (exact rdEnt_err h) | (exact rdConf_err h)
theorem rdCmd_err {s : List UInt8} {z : Int}  (h : rdCmd  s = .error z) : z ≠ 0 := by
  unfold rdCmd at h
  repeat' split at h
  all_goals first | (cases h; done) | (cases h; decide) | (cases h; exact rdNum_err (by assumption)) | (cases h; exact rdMany_err (by assumption)) | (cases h; exact rdTake_err (by assumption)) | (cases h; exact rdUpTo_err (by assumption)) | (cases h; exact rdText_err (by assumption)) | (cases h; exact rdFlag_err (by assumption)) | (cases h; exact rdList_err (by assumption)) | (cases h; exact rdEnt_err (by assumption)) | (cases h; exact rdConf_err (by assumption)) | (cases h; exact rdSnap_err (by assumption)) | (exact rdNum_err h) | (exact rdMany_err h) | (exact rdTake_err h) | (exact rdUpTo_err h) | (exact rdText_err h) | (exact rdFlag_err h) | (exact rdList_err h) | (exact rdEnt_err h) | (exact rdConf_err h) | (exact rdSnap_err h)
theorem rdReq_err {s : List UInt8} {z : Int}  (h : rdReq  s = .error z) : z ≠ 0 := by
  unfold rdReq at h
  repeat' split at h
  all_goals first | (cases h; done) | (cases h; decide) | (cases h; exact rdNum_err (by assumption)) | (cases h; exact rdMany_err (by assumption)) | (cases h; exact rdTake_err (by assumption)) | (cases h; exact rdUpTo_err (by assumption)) | (cases h; exact rdText_err (by assumption)) | (cases h; exact rdFlag_err (by assumption)) | (cases h; exact rdList_err (by assumption)) | (cases h; exact rdEnt_err (by assumption)) | (cases h; exact rdConf_err (by assumption)) | (cases h; exact rdSnap_err (by assumption)) | (cases h; exact rdCmd_err (by assumption)) | (exact rdNum_err h) | (exact rdMany_err h) | (exact rdTake_err h) | (exact rdUpTo_err h) | (exact rdText_err h) | (exact rdFlag_err h) | (exact rdList_err h) | (exact rdEnt_err h) | (exact rdConf_err h) | (exact rdSnap_err h) | (exact rdCmd_err h)
theorem rdEnts_err : ∀ {k : Nat} {acc : List EntP} {s : List UInt8} {z : Int}, rdEnts k acc s = .error z → z ≠ 0 := by
  intro k
  induction k with
  | zero => intro acc s z h; cases h
  | succ k ih =>
    intro acc s z h
    unfold rdEnts at h
    repeat' split at h
    all_goals first | (cases h; done) | (cases h; decide) | (cases h; exact rdNum_err (by assumption)) | (cases h; exact rdMany_err (by assumption)) | (cases h; exact rdTake_err (by assumption)) | (cases h; exact rdUpTo_err (by assumption)) | (cases h; exact rdText_err (by assumption)) | (cases h; exact rdFlag_err (by assumption)) | (cases h; exact rdList_err (by assumption)) | (cases h; exact rdEnt_err (by assumption)) | (cases h; exact rdConf_err (by assumption)) | (cases h; exact rdSnap_err (by assumption)) | (cases h; exact rdCmd_err (by assumption)) | (cases h; exact rdReq_err (by assumption)) | (exact rdNum_err h) | (exact rdMany_err h) | (exact rdTake_err h) | (exact rdUpTo_err h) | (exact rdText_err h) | (exact rdFlag_err h) | (exact rdList_err h) | (exact rdEnt_err h) | (exact rdConf_err h) | (exact rdSnap_err h) | (exact rdCmd_err h) | (exact rdReq_err h) | exact ih h
theorem rdAsk_err {s : List UInt8} {z : Int} {k f d t : Nat} (h : rdAsk k f d t s = .error z) : z ≠ 0 := by
  unfold rdAsk at h
  repeat' split at h
  all_goals first | (cases h; done) | (cases h; decide) | (cases h; exact rdNum_err (by assumption)) | (cases h; exact rdMany_err (by assumption)) | (cases h; exact rdTake_err (by assumption)) | (cases h; exact rdUpTo_err (by assumption)) | (cases h; exact rdText_err (by assumption)) | (cases h; exact rdFlag_err (by assumption)) | (cases h; exact rdList_err (by assumption)) | (cases h; exact rdEnt_err (by assumption)) | (cases h; exact rdConf_err (by assumption)) | (cases h; exact rdSnap_err (by assumption)) | (cases h; exact rdCmd_err (by assumption)) | (cases h; exact rdReq_err (by assumption)) | (cases h; exact rdEnts_err (by assumption)) | (exact rdNum_err h) | (exact rdMany_err h) | (exact rdTake_err h) | (exact rdUpTo_err h) | (exact rdText_err h) | (exact rdFlag_err h) | (exact rdList_err h) | (exact rdEnt_err h) | (exact rdConf_err h) | (exact rdSnap_err h) | (exact rdCmd_err h) | (exact rdReq_err h) | (exact rdEnts_err h)
theorem rdRep_err {s : List UInt8} {z : Int} {k f d t : Nat} (h : rdRep k f d t s = .error z) : z ≠ 0 := by
  unfold rdRep at h
  repeat' split at h
  all_goals first | (cases h; done) | (cases h; decide) | (cases h; exact rdNum_err (by assumption)) | (cases h; exact rdMany_err (by assumption)) | (cases h; exact rdTake_err (by assumption)) | (cases h; exact rdUpTo_err (by assumption)) | (cases h; exact rdText_err (by assumption)) | (cases h; exact rdFlag_err (by assumption)) | (cases h; exact rdList_err (by assumption)) | (cases h; exact rdEnt_err (by assumption)) | (cases h; exact rdConf_err (by assumption)) | (cases h; exact rdSnap_err (by assumption)) | (cases h; exact rdCmd_err (by assumption)) | (cases h; exact rdReq_err (by assumption)) | (cases h; exact rdEnts_err (by assumption)) | (cases h; exact rdAsk_err (by assumption)) | (exact rdNum_err h) | (exact rdMany_err h) | (exact rdTake_err h) | (exact rdUpTo_err h) | (exact rdText_err h) | (exact rdFlag_err h) | (exact rdList_err h) | (exact rdEnt_err h) | (exact rdConf_err h) | (exact rdSnap_err h) | (exact rdCmd_err h) | (exact rdReq_err h) | (exact rdEnts_err h) | (exact rdAsk_err h)
theorem rdBack_err {s : List UInt8} {z : Int} {k f d t : Nat} (h : rdBack k f d t s = .error z) : z ≠ 0 := by
  unfold rdBack at h
  repeat' split at h
  all_goals first | (cases h; done) | (cases h; decide) | (cases h; exact rdNum_err (by assumption)) | (cases h; exact rdMany_err (by assumption)) | (cases h; exact rdTake_err (by assumption)) | (cases h; exact rdUpTo_err (by assumption)) | (cases h; exact rdText_err (by assumption)) | (cases h; exact rdFlag_err (by assumption)) | (cases h; exact rdList_err (by assumption)) | (cases h; exact rdEnt_err (by assumption)) | (cases h; exact rdConf_err (by assumption)) | (cases h; exact rdSnap_err (by assumption)) | (cases h; exact rdCmd_err (by assumption)) | (cases h; exact rdReq_err (by assumption)) | (cases h; exact rdEnts_err (by assumption)) | (cases h; exact rdAsk_err (by assumption)) | (cases h; exact rdRep_err (by assumption)) | (exact rdNum_err h) | (exact rdMany_err h) | (exact rdTake_err h) | (exact rdUpTo_err h) | (exact rdText_err h) | (exact rdFlag_err h) | (exact rdList_err h) | (exact rdEnt_err h) | (exact rdConf_err h) | (exact rdSnap_err h) | (exact rdCmd_err h) | (exact rdReq_err h) | (exact rdEnts_err h) | (exact rdAsk_err h) | (exact rdRep_err h)
theorem rdInst_err {s : List UInt8} {z : Int} {k f d t : Nat} (h : rdInst k f d t s = .error z) : z ≠ 0 := by
  unfold rdInst at h
  repeat' split at h
  all_goals first | (cases h; done) | (cases h; decide) | (cases h; exact rdNum_err (by assumption)) | (cases h; exact rdMany_err (by assumption)) | (cases h; exact rdTake_err (by assumption)) | (cases h; exact rdUpTo_err (by assumption)) | (cases h; exact rdText_err (by assumption)) | (cases h; exact rdFlag_err (by assumption)) | (cases h; exact rdList_err (by assumption)) | (cases h; exact rdEnt_err (by assumption)) | (cases h; exact rdConf_err (by assumption)) | (cases h; exact rdSnap_err (by assumption)) | (cases h; exact rdCmd_err (by assumption)) | (cases h; exact rdReq_err (by assumption)) | (cases h; exact rdEnts_err (by assumption)) | (cases h; exact rdAsk_err (by assumption)) | (cases h; exact rdRep_err (by assumption)) | (cases h; exact rdBack_err (by assumption)) | (exact rdNum_err h) | (exact rdMany_err h) | (exact rdTake_err h) | (exact rdUpTo_err h) | (exact rdText_err h) | (exact rdFlag_err h) | (exact rdList_err h) | (exact rdEnt_err h) | (exact rdConf_err h) | (exact rdSnap_err h) | (exact rdCmd_err h) | (exact rdReq_err h) | (exact rdEnts_err h) | (exact rdAsk_err h) | (exact rdRep_err h) | (exact rdBack_err h)
theorem rdAppE_err {s : List UInt8} {z : Int} {k f d t i l c x : Nat} (h : rdAppE k f d t i l c x s = .error z) : z ≠ 0 := by
  unfold rdAppE at h
  repeat' split at h
  all_goals first | (cases h; done) | (cases h; decide) | (cases h; exact rdNum_err (by assumption)) | (cases h; exact rdMany_err (by assumption)) | (cases h; exact rdTake_err (by assumption)) | (cases h; exact rdUpTo_err (by assumption)) | (cases h; exact rdText_err (by assumption)) | (cases h; exact rdFlag_err (by assumption)) | (cases h; exact rdList_err (by assumption)) | (cases h; exact rdEnt_err (by assumption)) | (cases h; exact rdConf_err (by assumption)) | (cases h; exact rdSnap_err (by assumption)) | (cases h; exact rdCmd_err (by assumption)) | (cases h; exact rdReq_err (by assumption)) | (cases h; exact rdEnts_err (by assumption)) | (cases h; exact rdAsk_err (by assumption)) | (cases h; exact rdRep_err (by assumption)) | (cases h; exact rdBack_err (by assumption)) | (cases h; exact rdInst_err (by assumption)) | (exact rdNum_err h) | (exact rdMany_err h) | (exact rdTake_err h) | (exact rdUpTo_err h) | (exact rdText_err h) | (exact rdFlag_err h) | (exact rdList_err h) | (exact rdEnt_err h) | (exact rdConf_err h) | (exact rdSnap_err h) | (exact rdCmd_err h) | (exact rdReq_err h) | (exact rdEnts_err h) | (exact rdAsk_err h) | (exact rdRep_err h) | (exact rdBack_err h) | (exact rdInst_err h)
theorem rdApp_err {s : List UInt8} {z : Int} {k f d t : Nat} (h : rdApp k f d t s = .error z) : z ≠ 0 := by
  unfold rdApp at h
  repeat' split at h
  all_goals first | (cases h; done) | (cases h; decide) | (cases h; exact rdNum_err (by assumption)) | (cases h; exact rdMany_err (by assumption)) | (cases h; exact rdTake_err (by assumption)) | (cases h; exact rdUpTo_err (by assumption)) | (cases h; exact rdText_err (by assumption)) | (cases h; exact rdFlag_err (by assumption)) | (cases h; exact rdList_err (by assumption)) | (cases h; exact rdEnt_err (by assumption)) | (cases h; exact rdConf_err (by assumption)) | (cases h; exact rdSnap_err (by assumption)) | (cases h; exact rdCmd_err (by assumption)) | (cases h; exact rdReq_err (by assumption)) | (cases h; exact rdEnts_err (by assumption)) | (cases h; exact rdAsk_err (by assumption)) | (cases h; exact rdRep_err (by assumption)) | (cases h; exact rdBack_err (by assumption)) | (cases h; exact rdInst_err (by assumption)) | (cases h; exact rdAppE_err (by assumption)) | (exact rdNum_err h) | (exact rdMany_err h) | (exact rdTake_err h) | (exact rdUpTo_err h) | (exact rdText_err h) | (exact rdFlag_err h) | (exact rdList_err h) | (exact rdEnt_err h) | (exact rdConf_err h) | (exact rdSnap_err h) | (exact rdCmd_err h) | (exact rdReq_err h) | (exact rdEnts_err h) | (exact rdAsk_err h) | (exact rdRep_err h) | (exact rdBack_err h) | (exact rdInst_err h) | (exact rdAppE_err h)
theorem rdTail_err {s : List UInt8} {z : Int} {k f d t : Nat} (h : rdTail k f d t s = .error z) : z ≠ 0 := by
  unfold rdTail at h
  repeat' split at h
  all_goals first | (cases h; done) | (cases h; decide) | (cases h; exact rdNum_err (by assumption)) | (cases h; exact rdMany_err (by assumption)) | (cases h; exact rdTake_err (by assumption)) | (cases h; exact rdUpTo_err (by assumption)) | (cases h; exact rdText_err (by assumption)) | (cases h; exact rdFlag_err (by assumption)) | (cases h; exact rdList_err (by assumption)) | (cases h; exact rdEnt_err (by assumption)) | (cases h; exact rdConf_err (by assumption)) | (cases h; exact rdSnap_err (by assumption)) | (cases h; exact rdCmd_err (by assumption)) | (cases h; exact rdReq_err (by assumption)) | (cases h; exact rdEnts_err (by assumption)) | (cases h; exact rdAsk_err (by assumption)) | (cases h; exact rdRep_err (by assumption)) | (cases h; exact rdBack_err (by assumption)) | (cases h; exact rdInst_err (by assumption)) | (cases h; exact rdAppE_err (by assumption)) | (cases h; exact rdApp_err (by assumption)) | (exact rdNum_err h) | (exact rdMany_err h) | (exact rdTake_err h) | (exact rdUpTo_err h) | (exact rdText_err h) | (exact rdFlag_err h) | (exact rdList_err h) | (exact rdEnt_err h) | (exact rdConf_err h) | (exact rdSnap_err h) | (exact rdCmd_err h) | (exact rdReq_err h) | (exact rdEnts_err h) | (exact rdAsk_err h) | (exact rdRep_err h) | (exact rdBack_err h) | (exact rdInst_err h) | (exact rdAppE_err h) | (exact rdApp_err h)
theorem okMsg_err {r : Res Msg} {z : Int} (hr : ∀ y, r = .error y → y ≠ 0) (h : okMsg r = .error z) : z ≠ 0 := by
  unfold okMsg at h
  split at h
  · cases h; exact hr _ rfl
  · split at h
    · cases h
    · cases h; decide
theorem rdMsg_err {s : List UInt8} {z : Int} (h : rdMsg s = .error z) : z ≠ 0 := by
  unfold rdMsg at h
  repeat' split at h
  all_goals first | (cases h; exact rdNum_err (by assumption)) | exact okMsg_err (fun y hy => rdTail_err hy) h
theorem rdStrs_err : ∀ {k : Nat} {acc : List (List UInt8)} {s : List UInt8} {z : Int}, rdStrs k acc s = .error z → z ≠ 0 := by
  intro k
  induction k with
  | zero => intro acc s z h; cases h
  | succ k ih =>
    intro acc s z h
    unfold rdStrs at h
    repeat' split at h
    all_goals first | (cases h; done) | (cases h; decide) | (cases h; exact rdNum_err (by assumption)) | (cases h; exact rdMany_err (by assumption)) | (cases h; exact rdTake_err (by assumption)) | (cases h; exact rdUpTo_err (by assumption)) | (cases h; exact rdText_err (by assumption)) | (cases h; exact rdFlag_err (by assumption)) | (cases h; exact rdList_err (by assumption)) | (cases h; exact rdEnt_err (by assumption)) | (cases h; exact rdConf_err (by assumption)) | (cases h; exact rdSnap_err (by assumption)) | (cases h; exact rdCmd_err (by assumption)) | (cases h; exact rdReq_err (by assumption)) | (cases h; exact rdEnts_err (by assumption)) | (cases h; exact rdAsk_err (by assumption)) | (cases h; exact rdRep_err (by assumption)) | (cases h; exact rdBack_err (by assumption)) | (cases h; exact rdInst_err (by assumption)) | (cases h; exact rdAppE_err (by assumption)) | (cases h; exact rdApp_err (by assumption)) | (cases h; exact rdTail_err (by assumption)) | (exact rdNum_err h) | (exact rdMany_err h) | (exact rdTake_err h) | (exact rdUpTo_err h) | (exact rdText_err h) | (exact rdFlag_err h) | (exact rdList_err h) | (exact rdEnt_err h) | (exact rdConf_err h) | (exact rdSnap_err h) | (exact rdCmd_err h) | (exact rdReq_err h) | (exact rdEnts_err h) | (exact rdAsk_err h) | (exact rdRep_err h) | (exact rdBack_err h) | (exact rdInst_err h) | (exact rdAppE_err h) | (exact rdApp_err h) | (exact rdTail_err h) | exact ih h
theorem rdRes_err {s : List UInt8} {z : Int}  (h : rdRes  s = .error z) : z ≠ 0 := by
  unfold rdRes at h
  repeat' split at h
  all_goals first | (cases h; done) | (cases h; decide) | (cases h; exact rdNum_err (by assumption)) | (cases h; exact rdMany_err (by assumption)) | (cases h; exact rdTake_err (by assumption)) | (cases h; exact rdUpTo_err (by assumption)) | (cases h; exact rdText_err (by assumption)) | (cases h; exact rdFlag_err (by assumption)) | (cases h; exact rdList_err (by assumption)) | (cases h; exact rdEnt_err (by assumption)) | (cases h; exact rdConf_err (by assumption)) | (cases h; exact rdSnap_err (by assumption)) | (cases h; exact rdCmd_err (by assumption)) | (cases h; exact rdReq_err (by assumption)) | (cases h; exact rdEnts_err (by assumption)) | (cases h; exact rdAsk_err (by assumption)) | (cases h; exact rdRep_err (by assumption)) | (cases h; exact rdBack_err (by assumption)) | (cases h; exact rdInst_err (by assumption)) | (cases h; exact rdAppE_err (by assumption)) | (cases h; exact rdApp_err (by assumption)) | (cases h; exact rdTail_err (by assumption)) | (cases h; exact rdStrs_err (by assumption)) | (exact rdNum_err h) | (exact rdMany_err h) | (exact rdTake_err h) | (exact rdUpTo_err h) | (exact rdText_err h) | (exact rdFlag_err h) | (exact rdList_err h) | (exact rdEnt_err h) | (exact rdConf_err h) | (exact rdSnap_err h) | (exact rdCmd_err h) | (exact rdReq_err h) | (exact rdEnts_err h) | (exact rdAsk_err h) | (exact rdRep_err h) | (exact rdBack_err h) | (exact rdInst_err h) | (exact rdAppE_err h) | (exact rdApp_err h) | (exact rdTail_err h) | (exact rdStrs_err h)
theorem rdPairs_err : ∀ {k : Nat} {acc : List PairP} {s : List UInt8} {z : Int}, rdPairs k acc s = .error z → z ≠ 0 := by
  intro k
  induction k with
  | zero => intro acc s z h; cases h
  | succ k ih =>
    intro acc s z h
    unfold rdPairs at h
    repeat' split at h
    all_goals first | (cases h; done) | (cases h; decide) | (cases h; exact rdNum_err (by assumption)) | (cases h; exact rdMany_err (by assumption)) | (cases h; exact rdTake_err (by assumption)) | (cases h; exact rdUpTo_err (by assumption)) | (cases h; exact rdText_err (by assumption)) | (cases h; exact rdFlag_err (by assumption)) | (cases h; exact rdList_err (by assumption)) | (cases h; exact rdEnt_err (by assumption)) | (cases h; exact rdConf_err (by assumption)) | (cases h; exact rdSnap_err (by assumption)) | (cases h; exact rdCmd_err (by assumption)) | (cases h; exact rdReq_err (by assumption)) | (cases h; exact rdEnts_err (by assumption)) | (cases h; exact rdAsk_err (by assumption)) | (cases h; exact rdRep_err (by assumption)) | (cases h; exact rdBack_err (by assumption)) | (cases h; exact rdInst_err (by assumption)) | (cases h; exact rdAppE_err (by assumption)) | (cases h; exact rdApp_err (by assumption)) | (cases h; exact rdTail_err (by assumption)) | (cases h; exact rdStrs_err (by assumption)) | (cases h; exact rdRes_err (by assumption)) | (exact rdNum_err h) | (exact rdMany_err h) | (exact rdTake_err h) | (exact rdUpTo_err h) | (exact rdText_err h) | (exact rdFlag_err h) | (exact rdList_err h) | (exact rdEnt_err h) | (exact rdConf_err h) | (exact rdSnap_err h) | (exact rdCmd_err h) | (exact rdReq_err h) | (exact rdEnts_err h) | (exact rdAsk_err h) | (exact rdRep_err h) | (exact rdBack_err h) | (exact rdInst_err h) | (exact rdAppE_err h) | (exact rdApp_err h) | (exact rdTail_err h) | (exact rdStrs_err h) | (exact rdRes_err h) | exact ih h
theorem rdSess_err : ∀ {k : Nat} {acc : List SessP} {s : List UInt8} {z : Int}, rdSess k acc s = .error z → z ≠ 0 := by
  intro k
  induction k with
  | zero => intro acc s z h; cases h
  | succ k ih =>
    intro acc s z h
    unfold rdSess at h
    repeat' split at h
    all_goals first | (cases h; done) | (cases h; decide) | (cases h; exact rdNum_err (by assumption)) | (cases h; exact rdMany_err (by assumption)) | (cases h; exact rdTake_err (by assumption)) | (cases h; exact rdUpTo_err (by assumption)) | (cases h; exact rdText_err (by assumption)) | (cases h; exact rdFlag_err (by assumption)) | (cases h; exact rdList_err (by assumption)) | (cases h; exact rdEnt_err (by assumption)) | (cases h; exact rdConf_err (by assumption)) | (cases h; exact rdSnap_err (by assumption)) | (cases h; exact rdCmd_err (by assumption)) | (cases h; exact rdReq_err (by assumption)) | (cases h; exact rdEnts_err (by assumption)) | (cases h; exact rdAsk_err (by assumption)) | (cases h; exact rdRep_err (by assumption)) | (cases h; exact rdBack_err (by assumption)) | (cases h; exact rdInst_err (by assumption)) | (cases h; exact rdAppE_err (by assumption)) | (cases h; exact rdApp_err (by assumption)) | (cases h; exact rdTail_err (by assumption)) | (cases h; exact rdStrs_err (by assumption)) | (cases h; exact rdRes_err (by assumption)) | (cases h; exact rdPairs_err (by assumption)) | (exact rdNum_err h) | (exact rdMany_err h) | (exact rdTake_err h) | (exact rdUpTo_err h) | (exact rdText_err h) | (exact rdFlag_err h) | (exact rdList_err h) | (exact rdEnt_err h) | (exact rdConf_err h) | (exact rdSnap_err h) | (exact rdCmd_err h) | (exact rdReq_err h) | (exact rdEnts_err h) | (exact rdAsk_err h) | (exact rdRep_err h) | (exact rdBack_err h) | (exact rdInst_err h) | (exact rdAppE_err h) | (exact rdApp_err h) | (exact rdTail_err h) | (exact rdStrs_err h) | (exact rdRes_err h) | (exact rdPairs_err h) | exact ih h
theorem rdTabE_err {s : List UInt8} {z : Int} {tm : Nat} {ps : List PairP} {ss : List SessP} (h : rdTabE tm ps ss s = .error z) : z ≠ 0 := by
  unfold rdTabE at h
  repeat' split at h
  all_goals first | (cases h; done) | (cases h; decide) | (cases h; exact rdNum_err (by assumption)) | (cases h; exact rdMany_err (by assumption)) | (cases h; exact rdTake_err (by assumption)) | (cases h; exact rdUpTo_err (by assumption)) | (cases h; exact rdText_err (by assumption)) | (cases h; exact rdFlag_err (by assumption)) | (cases h; exact rdList_err (by assumption)) | (cases h; exact rdEnt_err (by assumption)) | (cases h; exact rdConf_err (by assumption)) | (cases h; exact rdSnap_err (by assumption)) | (cases h; exact rdCmd_err (by assumption)) | (cases h; exact rdReq_err (by assumption)) | (cases h; exact rdEnts_err (by assumption)) | (cases h; exact rdAsk_err (by assumption)) | (cases h; exact rdRep_err (by assumption)) | (cases h; exact rdBack_err (by assumption)) | (cases h; exact rdInst_err (by assumption)) | (cases h; exact rdAppE_err (by assumption)) | (cases h; exact rdApp_err (by assumption)) | (cases h; exact rdTail_err (by assumption)) | (cases h; exact rdStrs_err (by assumption)) | (cases h; exact rdRes_err (by assumption)) | (cases h; exact rdPairs_err (by assumption)) | (cases h; exact rdSess_err (by assumption)) | (exact rdNum_err h) | (exact rdMany_err h) | (exact rdTake_err h) | (exact rdUpTo_err h) | (exact rdText_err h) | (exact rdFlag_err h) | (exact rdList_err h) | (exact rdEnt_err h) | (exact rdConf_err h) | (exact rdSnap_err h) | (exact rdCmd_err h) | (exact rdReq_err h) | (exact rdEnts_err h) | (exact rdAsk_err h) | (exact rdRep_err h) | (exact rdBack_err h) | (exact rdInst_err h) | (exact rdAppE_err h) | (exact rdApp_err h) | (exact rdTail_err h) | (exact rdStrs_err h) | (exact rdRes_err h) | (exact rdPairs_err h) | (exact rdSess_err h)
theorem rdTabS_err {s : List UInt8} {z : Int} {tm : Nat} {ps : List PairP} (h : rdTabS tm ps s = .error z) : z ≠ 0 := by
  unfold rdTabS at h
  repeat' split at h
  all_goals first | (cases h; done) | (cases h; decide) | (cases h; exact rdNum_err (by assumption)) | (cases h; exact rdMany_err (by assumption)) | (cases h; exact rdTake_err (by assumption)) | (cases h; exact rdUpTo_err (by assumption)) | (cases h; exact rdText_err (by assumption)) | (cases h; exact rdFlag_err (by assumption)) | (cases h; exact rdList_err (by assumption)) | (cases h; exact rdEnt_err (by assumption)) | (cases h; exact rdConf_err (by assumption)) | (cases h; exact rdSnap_err (by assumption)) | (cases h; exact rdCmd_err (by assumption)) | (cases h; exact rdReq_err (by assumption)) | (cases h; exact rdEnts_err (by assumption)) | (cases h; exact rdAsk_err (by assumption)) | (cases h; exact rdRep_err (by assumption)) | (cases h; exact rdBack_err (by assumption)) | (cases h; exact rdInst_err (by assumption)) | (cases h; exact rdAppE_err (by assumption)) | (cases h; exact rdApp_err (by assumption)) | (cases h; exact rdTail_err (by assumption)) | (cases h; exact rdStrs_err (by assumption)) | (cases h; exact rdRes_err (by assumption)) | (cases h; exact rdPairs_err (by assumption)) | (cases h; exact rdSess_err (by assumption)) | (cases h; exact rdTabE_err (by assumption)) | (exact rdNum_err h) | (exact rdMany_err h) | (exact rdTake_err h) | (exact rdUpTo_err h) | (exact rdText_err h) | (exact rdFlag_err h) | (exact rdList_err h) | (exact rdEnt_err h) | (exact rdConf_err h) | (exact rdSnap_err h) | (exact rdCmd_err h) | (exact rdReq_err h) | (exact rdEnts_err h) | (exact rdAsk_err h) | (exact rdRep_err h) | (exact rdBack_err h) | (exact rdInst_err h) | (exact rdAppE_err h) | (exact rdApp_err h) | (exact rdTail_err h) | (exact rdStrs_err h) | (exact rdRes_err h) | (exact rdPairs_err h) | (exact rdSess_err h) | (exact rdTabE_err h)
theorem rdTab_err {s : List UInt8} {z : Int}  (h : rdTab  s = .error z) : z ≠ 0 := by
  unfold rdTab at h
  repeat' split at h
  all_goals first | (cases h; done) | (cases h; decide) | (cases h; exact rdNum_err (by assumption)) | (cases h; exact rdMany_err (by assumption)) | (cases h; exact rdTake_err (by assumption)) | (cases h; exact rdUpTo_err (by assumption)) | (cases h; exact rdText_err (by assumption)) | (cases h; exact rdFlag_err (by assumption)) | (cases h; exact rdList_err (by assumption)) | (cases h; exact rdEnt_err (by assumption)) | (cases h; exact rdConf_err (by assumption)) | (cases h; exact rdSnap_err (by assumption)) | (cases h; exact rdCmd_err (by assumption)) | (cases h; exact rdReq_err (by assumption)) | (cases h; exact rdEnts_err (by assumption)) | (cases h; exact rdAsk_err (by assumption)) | (cases h; exact rdRep_err (by assumption)) | (cases h; exact rdBack_err (by assumption)) | (cases h; exact rdInst_err (by assumption)) | (cases h; exact rdAppE_err (by assumption)) | (cases h; exact rdApp_err (by assumption)) | (cases h; exact rdTail_err (by assumption)) | (cases h; exact rdStrs_err (by assumption)) | (cases h; exact rdRes_err (by assumption)) | (cases h; exact rdPairs_err (by assumption)) | (cases h; exact rdSess_err (by assumption)) | (cases h; exact rdTabE_err (by assumption)) | (cases h; exact rdTabS_err (by assumption)) | (exact rdNum_err h) | (exact rdMany_err h) | (exact rdTake_err h) | (exact rdUpTo_err h) | (exact rdText_err h) | (exact rdFlag_err h) | (exact rdList_err h) | (exact rdEnt_err h) | (exact rdConf_err h) | (exact rdSnap_err h) | (exact rdCmd_err h) | (exact rdReq_err h) | (exact rdEnts_err h) | (exact rdAsk_err h) | (exact rdRep_err h) | (exact rdBack_err h) | (exact rdInst_err h) | (exact rdAppE_err h) | (exact rdApp_err h) | (exact rdTail_err h) | (exact rdStrs_err h) | (exact rdRes_err h) | (exact rdPairs_err h) | (exact rdSess_err h) | (exact rdTabE_err h) | (exact rdTabS_err h)
theorem full_err {α : Type} {r : Res α} {z : Int} (hr : ∀ y, r = .error y → y ≠ 0) (h : full r = .error z) : z ≠ 0 := by
  unfold full at h
  split at h
  · cases h; exact hr _ rfl
  · cases h
  · cases h; decide
end Go.Proofs.Ytidiodlemjeelaa
