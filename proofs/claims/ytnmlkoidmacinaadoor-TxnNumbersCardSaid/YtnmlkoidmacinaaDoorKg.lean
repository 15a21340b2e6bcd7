/-
  A map is a map, in plain Lean: what putting and deleting do to pairs; keys and values as the law keeps them. No program in sight.
-/
import Derived.Test.YtnmlkoidmacinaaDoorKa
namespace Go.Proofs.YtnmlkoidmacinaaDoor.Kv
open Wm Dg
set_option linter.unusedVariables false
set_option linter.unusedSimpArgs false

theorem OkPs.inj {l : List PairP} (h : OkPs l) {p q : PairP} (hp : p ∈ l) (hq : q ∈ l) (e : p.key = q.key) : p = q := by
  obtain ⟨i, hi, rfl⟩ := List.getElem_of_mem hp
  obtain ⟨j, hj, rfl⟩ := List.getElem_of_mem hq
  by_cases hij : i = j
  · subst hij; rfl
  · exact absurd e (key_ne h hi hj hij)
theorem isK_iff {l : List PairP} (h : OkPs l) {key : List UInt8} : isK l key = true ↔ ∃ p ∈ l, p.key = key := by
  constructor
  · intro hk
    obtain ⟨h1, h2⟩ := isK_at hk
    exact ⟨_, List.getElem_mem h1, h2⟩
  · rintro ⟨p, hp, rfl⟩
    obtain ⟨i, hi, rfl⟩ := List.getElem_of_mem hp
    cases hk : isK l l[i].key
    · exact absurd rfl (isK_no h hk hi)
    · rfl
theorem oldK_at {l : List PairP} {key : List UInt8} (hk : isK l key = true) : oldK l key ∈ l ∧ (oldK l key).key = key := by
  obtain ⟨h1, h2⟩ := isK_at hk
  unfold oldK
  rw [if_pos hk, List.getD_eq_getElem?_getD, List.getElem?_eq_getElem h1]
  exact ⟨List.getElem_mem h1, h2⟩
theorem oldK_no {l : List PairP} {key : List UInt8} (hk : isK l key = false) : oldK l key = zeroP := by
  unfold oldK
  rw [if_neg (by rw [hk]; decide)]
theorem oldK_mem {l : List PairP} (h : OkPs l) {p : PairP} (hp : p ∈ l) : oldK l p.key = p :=
  have hk : isK l p.key = true := (isK_iff h).2 ⟨p, hp, rfl⟩
  h.inj (oldK_at hk).1 hp (oldK_at hk).2
/-- what lies ahead of a place and behind it -/
theorem mem_ahead {l : List PairP} (h : OkPs l) {key : List UInt8} {p : PairP} : p ∈ l.take (place l key) ↔ p ∈ l ∧ lt p.key key = true := by
  constructor
  · intro hp
    obtain ⟨i, hi, rfl⟩ := List.getElem_of_mem hp
    rw [List.length_take] at hi
    rw [List.getElem_take]
    exact ⟨List.getElem_mem _, place_lo (by omega) (by omega)⟩
  · rintro ⟨hp, hl⟩
    obtain ⟨i, hi, rfl⟩ := List.getElem_of_mem hp
    have : i < place l key := by
      rcases Nat.lt_or_ge i (place l key) with h1 | h1
      · exact h1
      · rw [place_hi h hi h1] at hl; cases hl
    have e : (l.take (place l key))[i]'(by rw [List.length_take]; omega) = l[i] := List.getElem_take
    rw [← e]
    exact List.getElem_mem _
theorem mem_behind {l : List PairP} (h : OkPs l) {key : List UInt8} {p : PairP} : p ∈ l.drop (place l key + if isK l key then 1 else 0) ↔ p ∈ l ∧ lt key p.key = true := by
  constructor
  · intro hp
    obtain ⟨i, hi, rfl⟩ := List.getElem_of_mem hp
    rw [List.length_drop] at hi
    rw [List.getElem_drop]
    refine ⟨List.getElem_mem _, ?_⟩
    have h1 : lt l[place l key + (if isK l key then 1 else 0) + i].key key = false := place_hi h (by omega) (by split <;> omega)
    cases h2 : lt key l[place l key + (if isK l key then 1 else 0) + i].key
    · exfalso
      have e := lt_tri h1 h2
      cases hk : isK l key
      · exact isK_no h hk _ e
      · obtain ⟨q1, q2⟩ := isK_at hk
        exact key_ne h (i := place l key + (if isK l key = true then 1 else 0) + i) (j := place l key) (by omega) q1 (by simp only [hk, if_true]; omega) (by rw [e, q2])
    · rfl
  · rintro ⟨hp, hl⟩
    obtain ⟨i, hi, rfl⟩ := List.getElem_of_mem hp
    have h1 : place l key + (if isK l key then 1 else 0) ≤ i := by
      rcases Nat.lt_or_ge i (place l key) with h1 | h1
      · have := place_lo hi h1
        rw [lt_asym hl] at this; cases this
      · cases hk : isK l key
        · simpa using h1
        · simp only [if_true]
          obtain ⟨q1, q2⟩ := isK_at hk
          rcases Nat.lt_or_ge (place l key) i with h3 | h3
          · omega
          · have e : i = place l key := by omega
            subst e
            rw [q2, lt_irr] at hl; cases hl
    have e : (l.drop (place l key + if isK l key then 1 else 0))[i - (place l key + if isK l key then 1 else 0)]'(by rw [List.length_drop]; omega) = l[i] := by
      rw [List.getElem_drop]; congr 1; omega
    rw [← e]
    exact List.getElem_mem _
theorem lt_or_eq_or_gt (a b : List UInt8) : lt a b = true ∨ a = b ∨ lt b a = true := by
  cases h1 : lt a b
  · cases h2 : lt b a
    · exact Or.inr (Or.inl (lt_tri h1 h2))
    · exact Or.inr (Or.inr rfl)
  · exact Or.inl rfl
theorem mem_putL {l : List PairP} (h : OkPs l) {key val : List UInt8} {p : PairP} : p ∈ putL l key val ↔ p = newK l key val ∨ (p ∈ l ∧ p.key ≠ key) := by
  unfold putL
  rw [List.mem_append, List.mem_cons, mem_ahead h, mem_behind h]
  constructor
  · rintro (⟨h1, h2⟩ | h1 | ⟨h1, h2⟩)
    · exact Or.inr ⟨h1, lt_ne h2⟩
    · exact Or.inl h1
    · exact Or.inr ⟨h1, (lt_ne h2).symm⟩
  · rintro (h1 | ⟨h1, h2⟩)
    · exact Or.inr (Or.inl h1)
    · rcases lt_or_eq_or_gt p.key key with h3 | h3 | h3
      · exact Or.inl ⟨h1, h3⟩
      · exact absurd h3 h2
      · exact Or.inr (Or.inr ⟨h1, h3⟩)
/-- rising keys -/
abbrev Up (l : List PairP) : Prop := l.Pairwise (fun p q => lt p.key q.key = true)
theorem up_ok {l : List PairP} (h : OkPs l) : Up l := List.pairwise_iff_getElem.2 (fun i j hi hj hij => h.lt j hij hj)
theorem ok_of {l : List PairP} (hu : Up l) (hk : ∀ p ∈ l, p.key ≠ [] ∧ p.key.length ≤ 16) (hv : ∀ p ∈ l, p.val.length ≤ 64) (hr : ∀ p ∈ l, 1 ≤ p.ver ∧ p.ver ≤ 1099511627775) (hn : l.length ≤ 32) : OkPs l :=
  ⟨fun i hi => List.pairwise_iff_getElem.1 hu i (i + 1) (by omega) hi (by omega), hk, hv, hr, hn⟩
theorem up_putL {l : List PairP} (h : OkPs l) (key val : List UInt8) : Up (putL l key val) := by
  have hu := up_ok h
  unfold putL
  refine List.pairwise_append.2 ⟨hu.sublist (List.take_sublist _ _), List.pairwise_cons.2 ⟨fun q hq => ((mem_behind h).1 hq).2, hu.sublist (List.drop_sublist _ _)⟩, fun p hp q hq => ?_⟩
  have h1 := ((mem_ahead h).1 hp).2
  rcases List.mem_cons.1 hq with rfl | hq
  · exact h1
  · exact lt_trans h1 ((mem_behind h).1 hq).2
theorem putL_length {l : List PairP} (h : OkPs l) (key val : List UInt8) : (putL l key val).length = if isK l key then l.length else l.length + 1 := by
  unfold putL
  rw [List.length_append, List.length_cons, List.length_take, List.length_drop]
  have h1 := place_le l key
  cases hk : isK l key
  · simp only [Bool.false_eq_true, if_false]; omega
  · obtain ⟨q1, _⟩ := isK_at hk
    simp only [if_true]; omega
theorem ok_putL {l : List PairP} (h : OkPs l) {key val : List UInt8} (hk : key ≠ [] ∧ key.length ≤ 16) (hf : fullK l key val = false) : OkPs (putL l key val) := by
  unfold fullK at hf
  simp only [Bool.or_eq_false_iff, Bool.and_eq_false_iff, decide_eq_false_iff_not, Bool.not_eq_false'] at hf
  obtain ⟨⟨f1, f2⟩, f3⟩ := hf
  have hver : 1 ≤ (oldK l key).ver + 1 ∧ (oldK l key).ver + 1 ≤ 1099511627775 := by
    cases hi : isK l key
    · rw [oldK_no hi]; unfold zeroP; exact ⟨by decide, by decide⟩
    · have h1 := h.ver _ (oldK_at hi).1
      rcases f3 with f3 | f3
      · rw [hi] at f3; cases f3
      · omega
  refine ok_of (up_putL h key val) (fun p hp => ?_) (fun p hp => ?_) (fun p hp => ?_) ?_
  · rcases (mem_putL h).1 hp with rfl | ⟨h1, _⟩
    · exact hk
    · exact h.key p h1
  · rcases (mem_putL h).1 hp with rfl | ⟨h1, _⟩
    · show val.length ≤ 64; omega
    · exact h.val p h1
  · rcases (mem_putL h).1 hp with rfl | ⟨h1, _⟩
    · exact hver
    · exact h.ver p h1
  · rw [putL_length h]
    have := h.n
    split
    · exact this
    · next hi =>
      have hi' : isK l key = false := by simpa using hi
      rcases f2 with f2 | f2
      · rw [hi'] at f2; cases f2
      · omega
theorem mem_eraseP {l : List PairP} (h : OkPs l) {key : List UInt8} (hk : isK l key = true) {p : PairP} : p ∈ l.eraseIdx (place l key) ↔ p ∈ l ∧ p.key ≠ key := by
  obtain ⟨q1, q2⟩ := isK_at hk
  have hb := mem_behind h (key := key) (p := p)
  rw [hk] at hb
  simp only [if_true] at hb
  rw [List.eraseIdx_eq_take_drop_succ, List.mem_append, mem_ahead h, hb]
  constructor
  · rintro (⟨h1, h2⟩ | ⟨h1, h2⟩)
    · exact ⟨h1, lt_ne h2⟩
    · exact ⟨h1, (lt_ne h2).symm⟩
  · rintro ⟨h1, h2⟩
    rcases lt_or_eq_or_gt p.key key with h3 | h3 | h3
    · exact Or.inl ⟨h1, h3⟩
    · exact absurd h3 h2
    · exact Or.inr ⟨h1, h3⟩
theorem ok_erase {l : List PairP} (h : OkPs l) (k : Nat) : OkPs (l.eraseIdx k) := by
  have hs : List.Sublist (l.eraseIdx k) l := List.eraseIdx_sublist _ _
  exact ok_of ((up_ok h).sublist hs) (fun p hp => h.key p (hs.subset hp)) (fun p hp => h.val p (hs.subset hp)) (fun p hp => h.ver p (hs.subset hp)) (Nat.le_trans hs.length_le h.n)
end Go.Proofs.YtnmlkoidmacinaaDoor.Kv

namespace Go.Proofs.YtnmlkoidmacinaaDoor.Kv
open Wm Dg
set_option linter.unusedVariables false
set_option linter.unusedSimpArgs false

/-- keys and values, as the law keeps them, of a list of pairs -/
structure MapInv (p : List PairP) (keys vals : List (List UInt8)) (n : Nat) : Prop where
  ok : OkPs p
  len : p.length = keys.length
  vlen : vals.length = keys.length
  nodup : keys.Nodup
  get : ∀ k (hk : k < keys.length), isK p keys[k] = true ∧ vals[k]? = some (oldK p keys[k]).val
  back : ∀ q ∈ p, q.key ∈ keys
  ver : ∀ q ∈ p, q.ver ≤ n
theorem mapInv_nil : MapInv [] [] [] 0 :=
  ⟨⟨fun i h => (by simp at h), fun p h => (by cases h), fun p h => (by cases h), fun p h => (by cases h), (by decide)⟩, rfl, rfl, List.nodup_nil, fun k hk => (by simp at hk), fun q h => (by cases h), fun q h => (by cases h)⟩
theorem MapInv.mono {p : List PairP} {keys vals : List (List UInt8)} {n m : Nat} (h : MapInv p keys vals n) (hm : n ≤ m) : MapInv p keys vals m :=
  ⟨h.ok, h.len, h.vlen, h.nodup, h.get, h.back, fun q hq => by have := h.ver q hq; omega⟩
theorem MapInv.mem {p : List PairP} {keys vals : List (List UInt8)} {n : Nat} (h : MapInv p keys vals n) (key : List UInt8) : key ∈ keys ↔ isK p key = true := by
  constructor
  · intro hk
    obtain ⟨k, hk2, rfl⟩ := List.getElem_of_mem hk
    exact (h.get k hk2).1
  · intro hk
    obtain ⟨q, hq, rfl⟩ := (isK_iff h.ok).1 hk
    exact h.back q hq
/-- other keys are as they were -/
theorem put_other {l : List PairP} (h : OkPs l) {key val key2 : List UInt8} (h2 : OkPs (putL l key val)) (hne : key2 ≠ key) (hk : isK l key2 = true) : isK (putL l key val) key2 = true ∧ oldK (putL l key val) key2 = oldK l key2 := by
  obtain ⟨h3, h4⟩ := oldK_at hk
  have hm : oldK l key2 ∈ putL l key val := (mem_putL h).2 (Or.inr ⟨h3, by rw [h4]; exact hne⟩)
  refine ⟨(isK_iff h2).2 ⟨_, hm, h4⟩, ?_⟩
  have := oldK_mem h2 hm
  rw [h4] at this
  exact this
theorem put_self {l : List PairP} (h : OkPs l) {key val : List UInt8} (h2 : OkPs (putL l key val)) : isK (putL l key val) key = true ∧ oldK (putL l key val) key = newK l key val := by
  have hm : newK l key val ∈ putL l key val := (mem_putL h).2 (Or.inl rfl)
  exact ⟨(isK_iff h2).2 ⟨_, hm, rfl⟩, oldK_mem h2 hm⟩
theorem putL_ver {l : List PairP} (h : OkPs l) {key val : List UInt8} {n : Nat} (hv : ∀ q ∈ l, q.ver ≤ n) : ∀ q ∈ putL l key val, q.ver ≤ ((n + 1 : Nat) : Int) := by
  intro q hq
  rcases (mem_putL h).1 hq with rfl | ⟨h1, _⟩
  · show (oldK l key).ver + 1 ≤ _
    cases hk : isK l key
    · rw [oldK_no hk]; show (0 : Int) + 1 ≤ _; omega
    · have := hv _ (oldK_at hk).1; omega
  · have := hv q h1; omega
/-- a key that was not there -/
theorem MapInv.putNew {p : List PairP} {keys vals : List (List UInt8)} {n : Nat} (h : MapInv p keys vals n) {key val : List UInt8} (hk : key ≠ [] ∧ key.length ≤ 16) (hf : fullK p key val = false) (hn : isK p key = false) : MapInv (putL p key val) (keys ++ [key]) (vals ++ [val]) (n + 1) := by
  have hok := ok_putL h.ok hk hf
  have hni : key ∉ keys := fun e => by rw [(h.mem key).1 e] at hn; cases hn
  refine ⟨hok, ?_, by simp [h.vlen], ?_, fun k hk => ?_, fun q hq => ?_, putL_ver h.ok h.ver⟩
  · rw [putL_length h.ok, hn, List.length_append, h.len]; rfl
  · refine List.nodup_append.2 ⟨h.nodup, by simp, fun a ha b hb => ?_⟩
    have hb' : b = key := by simpa using hb
    subst hb'
    exact fun e => hni (e ▸ ha)
  · rw [List.length_append] at hk
    rcases Nat.lt_or_ge k keys.length with h1 | h1
    · rw [List.getElem_append_left h1]
      have hne : keys[k] ≠ key := fun e => hni (e ▸ List.getElem_mem h1)
      obtain ⟨g1, g2⟩ := put_other h.ok hok hne (h.get k h1).1
      refine ⟨g1, ?_⟩
      rw [g2, List.getElem?_append_left (by rw [h.vlen]; exact h1)]
      exact (h.get k h1).2
    · have hk2 : k = keys.length := by simp at hk; omega
      subst hk2
      have e : (keys ++ [key])[keys.length]'(by simp) = key := by simp
      rw [e]
      obtain ⟨g1, g2⟩ := put_self h.ok hok
      refine ⟨g1, ?_⟩
      rw [g2, ← h.vlen]
      simp [newK]
  · rcases (mem_putL h.ok).1 hq with rfl | ⟨h1, _⟩
    · exact List.mem_append_right _ (by simp [newK])
    · exact List.mem_append_left _ (h.back q h1)
/-- a key that was there -/
theorem MapInv.putOld {p : List PairP} {keys vals : List (List UInt8)} {n : Nat} (h : MapInv p keys vals n) {key val : List UInt8} (hk : key ≠ [] ∧ key.length ≤ 16) (hf : fullK p key val = false) {a : Nat} (ha : a < keys.length) (hka : keys[a] = key) : MapInv (putL p key val) keys (vals.set a val) (n + 1) := by
  have hok := ok_putL h.ok hk hf
  have hy : isK p key = true := by rw [← hka]; exact (h.get a ha).1
  refine ⟨hok, ?_, by simp [h.vlen], h.nodup, fun k hk => ?_, fun q hq => ?_, putL_ver h.ok h.ver⟩
  · rw [putL_length h.ok, hy, if_pos rfl, h.len]
  · by_cases e : k = a
    · subst e
      rw [hka]
      obtain ⟨g1, g2⟩ := put_self h.ok hok
      refine ⟨g1, ?_⟩
      rw [g2, List.getElem?_set_self (by rw [h.vlen]; exact ha)]
      rfl
    · have hne : keys[k] ≠ key := fun e2 => e ((List.getElem_inj h.nodup).1 (by rw [e2, hka]))
      obtain ⟨g1, g2⟩ := put_other h.ok hok hne (h.get k hk).1
      refine ⟨g1, ?_⟩
      rw [g2, List.getElem?_set_ne (fun e2 => e e2.symm)]
      exact (h.get k hk).2
  · rcases (mem_putL h.ok).1 hq with rfl | ⟨h1, _⟩
    · show key ∈ keys
      rw [← hka]; exact List.getElem_mem ha
    · exact h.back q h1
/-- a key is no more -/
theorem MapInv.del {p : List PairP} {keys vals : List (List UInt8)} {n : Nat} (h : MapInv p keys vals n) {key : List UInt8} {a : Nat} (ha : a < keys.length) (hka : keys[a] = key) : MapInv (p.eraseIdx (place p key)) (keys.eraseIdx a) (vals.eraseIdx a) n := by
  have hok := ok_erase h.ok (place p key)
  have hy : isK p key = true := by rw [← hka]; exact (h.get a ha).1
  have hpl := (isK_at hy).1
  have hs : List.Sublist (keys.eraseIdx a) keys := List.eraseIdx_sublist _ _
  have hnk : ∀ x ∈ keys.eraseIdx a, x ≠ key := fun x hx e => by
    obtain ⟨j, hj, hja⟩ := List.getElem_of_mem hx
    rw [List.length_eraseIdx, if_pos ha] at hj
    have hjx := hja
    rw [List.getElem_eraseIdx] at hjx
    split at hjx
    · have : j = a := (List.getElem_inj h.nodup).1 (by rw [hjx, e, hka])
      omega
    · have : j + 1 = a := (List.getElem_inj h.nodup).1 (by rw [hjx, e, hka])
      omega
  refine ⟨hok, ?_, ?_, h.nodup.sublist hs, fun k hk => ?_, fun q hq => ?_, fun q hq => h.ver q ((List.eraseIdx_sublist _ _).subset hq)⟩
  · rw [List.length_eraseIdx, List.length_eraseIdx, if_pos hpl, if_pos ha, h.len]
  · rw [List.length_eraseIdx, List.length_eraseIdx, if_pos ha, if_pos (by rw [h.vlen]; exact ha), h.vlen]
  · have hx : (keys.eraseIdx a)[k] ∈ keys.eraseIdx a := List.getElem_mem hk
    have hne := hnk _ hx
    have hkl := hk
    rw [List.length_eraseIdx, if_pos ha] at hkl
    have hval : ∀ (b : Nat) (hb : b < keys.length), keys[b] = (keys.eraseIdx a)[k] → vals[b]? = some (oldK p (keys.eraseIdx a)[k]).val ∧ isK p (keys.eraseIdx a)[k] = true := fun b hb e => by rw [← e]; exact ⟨(h.get b hb).2, (h.get b hb).1⟩
    have hfin : vals[if k < a then k else k + 1]? = some (oldK p (keys.eraseIdx a)[k]).val ∧ isK p (keys.eraseIdx a)[k] = true := by
      rcases Nat.lt_or_ge k a with h1 | h1
      · rw [if_pos h1]
        exact hval k (by omega) (by rw [List.getElem_eraseIdx, dif_pos h1])
      · rw [if_neg (by omega)]
        exact hval (k + 1) (by omega) (by rw [List.getElem_eraseIdx, dif_neg (by omega)])
    obtain ⟨h3, h4⟩ := oldK_at hfin.2
    have hm : oldK p (keys.eraseIdx a)[k] ∈ p.eraseIdx (place p key) := (mem_eraseP h.ok hy).2 ⟨h3, by rw [h4]; exact hne⟩
    have h5 := oldK_mem hok hm
    rw [h4] at h5
    refine ⟨(isK_iff hok).2 ⟨_, hm, h4⟩, ?_⟩
    rw [h5, List.getElem?_eraseIdx]
    have := hfin.1
    split
    · next h1 => rw [if_pos h1] at this; exact this
    · next h1 => rw [if_neg h1] at this; exact this
  · obtain ⟨h1, h2⟩ := (mem_eraseP h.ok hy).1 hq
    obtain ⟨b, hb, e⟩ := List.getElem_of_mem (h.back q h1)
    have hba : b ≠ a := fun e2 => by subst e2; exact h2 (by rw [← e, hka])
    rw [← e]
    rw [List.mem_iff_getElem?]
    rcases Nat.lt_or_ge b a with h3 | h3
    · exact ⟨b, by rw [List.getElem?_eraseIdx, if_pos h3, List.getElem?_eq_getElem hb]⟩
    · exact ⟨b - 1, by rw [List.getElem?_eraseIdx, if_neg (by omega), show b - 1 + 1 = b from by omega, List.getElem?_eq_getElem hb]⟩
end Go.Proofs.YtnmlkoidmacinaaDoor.Kv
