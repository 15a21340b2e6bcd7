/-
  Numbers as texts: what the program's reading (the library's) and the document's reading take is the same; texts at blanks.
-/
import Derived.Lib.AtoiAll
import Derived.Lib.ItoaNum
import Derived.Lib.CountLaws
import Derived.Lib.SplitLaws
namespace Go.Proofs.YtnmlkoidmacinaaDoor.Tn
open Go.Lib
set_option linter.unusedVariables false
set_option linter.unusedSimpArgs false

def dgt (c : UInt8) : Bool := decide (48 ≤ c.toNat) && decide (c.toNat ≤ 57)
theorem dgt_iff {c : UInt8} : dgt c = true ↔ 48 ≤ c.toNat ∧ c.toNat ≤ 57 := by unfold dgt; simp
def amt (most : Nat) : Nat → List UInt8 → Option Nat
  | n, [] => some n
  | n, c :: r => if dgt c = true ∧ n ≤ most then amt most (10 * n + (c.toNat - 48)) r else none
def amountB (most : Nat) (s : List UInt8) : Option Nat :=
  match amt most 0 s with
  | none => none
  | some n => if s = [] ∨ most < n ∨ (s.head? = some 48 ∧ 1 < s.length) then none else some n
def numB (most : Nat) (s : List UInt8) : Option Nat :=
  match atoiAll s with
  | .ok n => if 0 ≤ n ∧ n ≤ most ∧ itoa n = s then some n.toNat else none
  | _ => none
theorem byte_of {d : Nat} (h : d ≤ 9) : (UInt8.ofNat (48 + d)).toNat = 48 + d := by simp; omega
theorem byte_eq {c : UInt8} {d : Nat} (h1 : 48 ≤ c.toNat) (h2 : d = c.toNat - 48) : UInt8.ofNat (48 + d) = c := by
  subst h2
  have : 48 + (c.toNat - 48) = c.toNat := by omega
  rw [this, UInt8.ofNat_toNat]
theorem dec_snoc {m d : Nat} (hm : 0 < m) (hd : d ≤ 9) : decDigits (10 * m + d) = decDigits m ++ [UInt8.ofNat (48 + d)] := by
  have h1 : (10 * m + d) / 10 = m := by omega
  have h2 : (10 * m + d) % 10 = d := by omega
  rw [decDigits, dif_neg (by omega), h1, h2]
theorem dec_small {d : Nat} (hd : d ≤ 9) : decDigits d = [UInt8.ofNat (48 + d)] := by rw [decDigits, dif_pos (by omega)]
theorem amt_dec {most : Nat} : ∀ (s : List UInt8) (m n : Nat), 0 < m → amt most m s = some n → decDigits n = decDigits m ++ s
  | [], m, n, _, h => by simp only [amt, Option.some.injEq] at h; subst h; simp
  | c :: r, m, n, hm, h => by
    unfold amt at h
    split at h
    · rename_i hc
      have hd := dgt_iff.1 hc.1
      have := amt_dec r _ n (by omega) h
      rw [this, dec_snoc hm (by omega), byte_eq hd.1 rfl, List.append_assoc]
      rfl
    · cases h
theorem amountB_dec {most n : Nat} {s : List UInt8} (h : amountB most s = some n) : s = decDigits n ∧ n ≤ most := by
  unfold amountB at h
  split at h
  · cases h
  · rename_i k hk
    split at h
    · cases h
    · rename_i hn
      injection h with h
      subst h
      simp only [not_or, Nat.not_lt] at hn
      refine ⟨?_, hn.2.1⟩
      cases s with
      | nil => exact absurd rfl hn.1
      | cons c r =>
        unfold amt at hk
        split at hk
        · rename_i hc
          have hd := dgt_iff.1 hc.1
          rw [Nat.mul_zero, Nat.zero_add] at hk
          by_cases h0 : c.toNat - 48 = 0
          · have hc48 : c = 48 := by
              have : c.toNat = 48 := by omega
              exact UInt8.toNat.inj this
            cases r with
            | nil => simp only [amt, Option.some.injEq] at hk; subst hk; rw [h0, hc48]; rw [dec_small (by omega)]; rfl
            | cons b r => exact absurd ⟨by rw [hc48]; rfl, by simp⟩ hn.2.2
          · have := amt_dec r _ k (by omega) hk
            rw [this, dec_small (by omega), byte_eq hd.1 rfl]
            rfl
        · cases hk
theorem amt_snoc {most : Nat} (c : UInt8) : ∀ (l : List UInt8) (m k : Nat), amt most m l = some k → dgt c = true → k ≤ most → amt most m (l ++ [c]) = some (10 * k + (c.toNat - 48))
  | [], m, k, h, hc, hk => by
    simp only [amt, Option.some.injEq] at h; subst h
    rw [List.nil_append, amt, if_pos ⟨hc, hk⟩, amt]
  | a :: r, m, k, h, hc, hk => by
    rw [List.cons_append, amt]
    rw [amt] at h
    split at h
    · rename_i ha
      rw [if_pos ha]
      exact amt_snoc c r _ k h hc hk
    · cases h
theorem dec_facts : ∀ (n : Nat), ∃ c r, decDigits n = c :: r ∧ (∀ b ∈ decDigits n, dgt b = true) ∧ (0 < n → c ≠ 48) ∧ (n ≤ 9 → r = []) := by
  intro n
  induction n using Nat.strongRecOn with
  | _ n ih =>
    by_cases h : n ≤ 9
    · refine ⟨_, _, dec_small h, ?_, ?_, fun _ => rfl⟩
      · intro b hb
        rw [dec_small h] at hb
        obtain rfl := List.mem_singleton.1 hb
        rw [dgt_iff, byte_of h]; omega
      · intro h0 e
        have := congrArg UInt8.toNat e
        rw [byte_of h] at this
        have h48 : (48 : UInt8).toNat = 48 := rfl
        omega
    · obtain ⟨c, r, h1, h2, h3, -⟩ := ih (n / 10) (by omega)
      have e : decDigits n = decDigits (n / 10) ++ [UInt8.ofNat (48 + n % 10)] := by
        conv => lhs; rw [decDigits]
        rw [dif_neg (by omega)]
      refine ⟨c, r ++ [UInt8.ofNat (48 + n % 10)], by rw [e, h1]; rfl, ?_, fun _ => h3 (by omega), fun h9 => absurd h9 h⟩
      intro b hb
      rw [e] at hb
      rcases List.mem_append.1 hb with hb | hb
      · exact h2 b hb
      · obtain rfl := List.mem_singleton.1 hb
        rw [dgt_iff, byte_of (by omega)]; omega
theorem amt_of {most : Nat} : ∀ n : Nat, n ≤ most → amt most 0 (decDigits n) = some n := by
  intro n
  induction n using Nat.strongRecOn with
  | _ n ih =>
    intro hn
    by_cases h : n ≤ 9
    · have hd : dgt (UInt8.ofNat (48 + n)) = true := by rw [dgt_iff, byte_of h]; omega
      rw [dec_small h, amt, if_pos ⟨hd, Nat.zero_le _⟩, amt, byte_of h]
      congr 1; omega
    · have e : decDigits n = decDigits (n / 10) ++ [UInt8.ofNat (48 + n % 10)] := by
        conv => lhs; rw [decDigits]
        rw [dif_neg (by omega)]
      rw [e, amt_snoc _ _ 0 (n / 10) (ih _ (by omega) (by omega)) (by rw [dgt_iff, byte_of (by omega)]; omega) (by omega), byte_of (by omega)]
      congr 1; omega
theorem amountB_of {most n : Nat} (h : n ≤ most) : amountB most (decDigits n) = some n := by
  obtain ⟨c, r, h1, h2, h3, h4⟩ := dec_facts n
  unfold amountB
  rw [amt_of n h]
  dsimp only
  rw [if_neg]
  rintro (e | e | ⟨e1, e2⟩)
  · rw [h1] at e; cases e
  · omega
  · rw [h1] at e1 e2
    injection e1 with e1
    by_cases h0 : n ≤ 9
    · rw [h4 h0] at e2; simp at e2
    · exact h3 (by omega) e1
theorem parse_snoc (c : UInt8) (hc : dgt c = true) : ∀ (l : List UInt8) (m k : Nat), parseUint10 m l = .ok k → k < 100000000000 → parseUint10 m (l ++ [c]) = .ok (k * 10 + (c.toNat - 48))
  | [], m, k, h, hk => by
    simp only [parseUint10] at h; injection h with h; subst h
    have hd := dgt_iff.1 hc
    rw [List.nil_append, parseUint10, if_pos hd, if_neg (by omega), if_neg (by omega), parseUint10]
  | a :: r, m, k, h, hk => by
    rw [List.cons_append, parseUint10]
    rw [parseUint10] at h
    split at h
    · rename_i ha
      rw [if_pos ha]
      split at h
      · cases h
      · rename_i h1
        rw [if_neg h1]
        split at h
        · cases h
        · rename_i h2
          rw [if_neg h2]
          exact parse_snoc c hc r _ k h hk
    · cases h
theorem parse_of : ∀ n : Nat, n < 100000000000 → parseUint10 0 (decDigits n) = .ok n := by
  intro n
  induction n using Nat.strongRecOn with
  | _ n ih =>
    intro hn
    by_cases h : n ≤ 9
    · have hd : 48 ≤ (UInt8.ofNat (48 + n)).toNat ∧ (UInt8.ofNat (48 + n)).toNat ≤ 57 := by rw [byte_of h]; omega
      rw [dec_small h, parseUint10, if_pos hd, if_neg (by omega), byte_of h, if_neg (by omega), parseUint10]
      congr 1; omega
    · have e : decDigits n = decDigits (n / 10) ++ [UInt8.ofNat (48 + n % 10)] := by
        conv => lhs; rw [decDigits]
        rw [dif_neg (by omega)]
      rw [e, parse_snoc _ (by rw [dgt_iff, byte_of (by omega)]; omega) _ 0 (n / 10) (ih _ (by omega) (by omega)) (by omega), byte_of (by omega)]
      congr 1; omega
theorem atoiAll_of {n : Nat} (h : n < 100000000000) : atoiAll (decDigits n) = .ok (n : Int) := by
  obtain ⟨c, r, h1, h2, -, -⟩ := dec_facts n
  have hc := dgt_iff.1 (h2 c (by rw [h1]; simp))
  have hp := parse_of n h
  rw [h1] at hp ⊢
  unfold atoiAll
  have h43 : ¬ c.toNat = 43 := by omega
  have h45 : ¬ c.toNat = 45 := by omega
  simp only [h43, h45, or_self, if_false, parseMag, reduceCtorEq, hp, not_false_eq_true, true_and, false_and]
  rw [if_neg (by omega)]
theorem itoa_of (n : Nat) : itoa (n : Int) = decDigits n := by
  unfold itoa
  rw [if_neg (by omega)]
  rfl
theorem numB_eq {most : Nat} (hm : most ≤ 999999999) (s : List UInt8) : numB most s = amountB most s := by
  cases ha : amountB most s with
  | some n =>
    obtain ⟨rfl, hn⟩ := amountB_dec ha
    unfold numB
    rw [atoiAll_of (by omega)]
    dsimp only
    rw [if_pos ⟨by omega, by omega, itoa_of n⟩]
    rfl
  | none =>
    unfold numB
    split
    · rename_i n hn
      split
      · rename_i h
        obtain ⟨h0, h1, h2⟩ := h
        obtain ⟨k, rfl⟩ := Int.eq_ofNat_of_zero_le h0
        rw [itoa_of] at h2
        rw [← h2, amountB_of (by omega)] at ha
        cases ha
      · rfl
    · rfl
/-- at blanks -/
def spc (cur : List UInt8) : List UInt8 → List (List UInt8)
  | [] => [cur]
  | c :: r => if c = 32 then cur :: spc [] r else spc (cur ++ [c]) r
theorem spc_idx : ∀ (s cur : List UInt8), (index s [32] = -1 ∧ spc cur s = [cur ++ s]) ∨ ∃ i : Nat, index s [32] = i ∧ spc cur s = (cur ++ s.take i) :: spc [] (s.drop (i + 1)) ∧ i < s.length
  | [], cur => Or.inl ⟨rfl, by simp [spc]⟩
  | c :: r, cur => by
    by_cases h : c = 32
    · subst h
      refine Or.inr ⟨0, ?_, ?_, by simp⟩
      · unfold index; simp [List.isPrefixOf]
      · simp [spc]
    · have hp : List.isPrefixOf [32] (c :: r) = false := by simp [List.isPrefixOf]; exact fun e => h e.symm
      have hs : spc cur (c :: r) = spc (cur ++ [c]) r := by simp [spc, h]
      rcases spc_idx r (cur ++ [c]) with ⟨h1, h2⟩ | ⟨i, h1, h2, h3⟩
      · refine Or.inl ⟨?_, by rw [hs, h2]; simp⟩
        unfold index; rw [hp, h1]; simp
      · refine Or.inr ⟨i + 1, ?_, by rw [hs, h2]; simp, by simp; omega⟩
        unfold index; rw [hp, h1]
        simp only [Bool.false_eq_true, if_false]
        rw [if_neg (by simp only [beq_iff_eq]; omega)]
        omega
theorem splitK_spc : ∀ (fuel : Nat) (s : List UInt8), s.length < fuel → splitK [32] 0 (countFrom [32] fuel s) s = spc [] s
  | 0, s, h => absurd h (Nat.not_lt_zero _)
  | fuel + 1, s, h => by
    rcases spc_idx s [] with ⟨h1, h2⟩ | ⟨i, h1, h2, h3⟩
    · have hm : ((-1 : Int) == -1) = true := rfl
      rw [countFrom, h1, hm, if_pos rfl, splitK, h2]; rfl
    · have hne : (index s [32] == -1) = false := by rw [h1]; simp only [beq_eq_false_iff_ne]; omega
      rw [countFrom, hne, if_neg (by simp), Nat.add_comm, splitK, hne, if_neg (by simp), h1, h2]
      have e1 : ((i : Int).toNat + 0) = i := by omega
      have e2 : ((i : Int).toNat + ([32] : List UInt8).length) = i + 1 := by simp
      rw [e1, e2, splitK_spc fuel (s.drop (i + 1)) (by rw [List.length_drop]; omega)]
      rfl
theorem spc_len : ∀ (s cur x : List UInt8), x ∈ spc cur s → x.length ≤ cur.length + s.length
  | [], cur, x, h => by
    obtain rfl := List.mem_singleton.1 h
    simp
  | c :: r, cur, x, h => by
    unfold spc at h
    split at h
    · rcases List.mem_cons.1 h with rfl | h
      · simp
      · have := spc_len r [] x h
        simp at this
        simp; omega
    · have := spc_len r _ x h
      simp at this
      simp; omega
theorem spc_num : ∀ (s cur : List UInt8), (spc cur s).length ≤ s.length + 1
  | [], cur => by simp [spc]
  | c :: r, cur => by
    unfold spc
    split
    · have := spc_num r []
      simp; omega
    · have := spc_num r (cur ++ [c])
      simp; omega
theorem spc_pos : ∀ (s cur : List UInt8), 1 ≤ (spc cur s).length
  | [], cur => by simp [spc]
  | c :: r, cur => by
    unfold spc
    split
    · simp
    · exact spc_pos r _
def heldV (s : List UInt8) : Nat × Nat × Nat :=
  match spc [] s with
  | [a] => match amountB 999999999 a with | some n => (n, 0, 0) | none => (0, 0, 0)
  | [a, b, c] => match amountB 999999999 a, amountB 999 b, amountB 999999999 c with
    | some n, some h, some t => if h = 0 then (0, 0, 0) else (n, h, t)
    | _, _, _ => (0, 0, 0)
  | _ => (0, 0, 0)
def mostAt (j : Nat) : Nat := if j = 1 then 999 else 999999999
def valAt (l : List (List UInt8)) (j : Nat) : Option Nat := match l[j]? with | none => some 0 | some s => amountB (mostAt j) s
def okLen (l : List (List UInt8)) : Bool := decide (l.length = 1) || decide (l.length = 3)
def okK (l : List (List UInt8)) (k : Nat) : Bool := okLen l && (List.range k).all (fun j => (valAt l j).isSome)
theorem okK_succ (l : List (List UInt8)) (k : Nat) : okK l (k + 1) = (okK l k && (valAt l k).isSome) := by
  unfold okK
  rw [List.range_succ, List.all_append, ← Bool.and_assoc]
  simp
theorem okK_three (l : List (List UInt8)) : okK l 3 = (okLen l && ((valAt l 0).isSome && ((valAt l 1).isSome && (valAt l 2).isSome))) := by
  have h0 : okK l 0 = okLen l := by simp [okK]
  rw [okK_succ, okK_succ, okK_succ, h0, Bool.and_assoc, Bool.and_assoc]
theorem heldV_prog (s : List UInt8) : heldV s = if (okK (spc [] s) 3 && !(decide ((spc [] s).length = 3) && decide ((valAt (spc [] s) 1).getD 0 = 0))) = true then ((valAt (spc [] s) 0).getD 0, (valAt (spc [] s) 1).getD 0, (valAt (spc [] s) 2).getD 0) else (0, 0, 0) := by
  unfold heldV
  generalize spc [] s = l
  match l with
  | [] => simp [okK, okLen]
  | [a] =>
    have h0 : valAt [a] 0 = amountB 999999999 a := rfl
    have h1 : valAt [a] 1 = some 0 := rfl
    have h2 : valAt [a] 2 = some 0 := rfl
    dsimp only
    rw [okK_three, h0, h1, h2]
    cases amountB 999999999 a <;> simp [okLen]
  | [a, b] => simp [okK, okLen]
  | [a, b, c] =>
    have h0 : valAt [a, b, c] 0 = amountB 999999999 a := rfl
    have h1 : valAt [a, b, c] 1 = amountB 999 b := rfl
    have h2 : valAt [a, b, c] 2 = amountB 999999999 c := rfl
    dsimp only
    rw [okK_three, h0, h1, h2]
    cases amountB 999999999 a with
    | none => simp
    | some x => cases amountB 999 b with
      | none => simp
      | some y => cases amountB 999999999 c with
        | none => simp
        | some z => cases y <;> simp [okLen]
  | a :: b :: c :: d :: r => simp [okK, okLen]
theorem heldV_doc (s : List UInt8) : heldV s = match amountB 999999999 ((spc [] s).getD 0 []) with
    | none => (0, 0, 0)
    | some n => if (spc [] s).length ≠ 1 ∧ (spc [] s).length ≠ 3 then (0, 0, 0) else if (spc [] s).length = 3 then
        (match amountB 999 ((spc [] s).getD 1 []), amountB 999999999 ((spc [] s).getD 2 []) with
        | some b, some t => if b < 1 then (0, 0, 0) else (n, b, t)
        | _, _ => (0, 0, 0)) else (n, 0, 0) := by
  unfold heldV
  generalize spc [] s = l
  match l with
  | [] => simp only [List.getD_nil]; cases amountB 999999999 [] <;> simp
  | [a] => simp only [List.getD_cons_zero]; cases amountB 999999999 a <;> simp
  | [a, b] => simp only [List.getD_cons_zero]; cases amountB 999999999 a <;> simp
  | [a, b, c] =>
    simp only [List.getD_cons_zero, List.getD_cons_succ]
    cases amountB 999999999 a with
    | none => simp
    | some x => cases amountB 999 b with
      | none => simp
      | some y => cases amountB 999999999 c with
        | none => simp
        | some z => cases y <;> simp
  | a :: b :: c :: d :: r => simp only [List.getD_cons_zero]; cases amountB 999999999 a <;> simp
theorem amountB_le {most n : Nat} {s : List UInt8} (h : amountB most s = some n) : n ≤ most := (amountB_dec h).2
/-- the number that the document's reading hands back -/
def amountV (most : Nat) (s : List UInt8) : Int := match amountB most s with | none => -1 | some n => n
end Go.Proofs.YtnmlkoidmacinaaDoor.Tn
