/-
  The map that is replicated, in plain Lean: what commands do to pairs; both ways. No program in sight.
-/
import Derived.Test.YtnmlkoidmacinaaDoorKp2
import Derived.Test.YtnmlkoidmacinaaDoorDa
namespace Go.Proofs.YtnmlkoidmacinaaDoor.Kv
open Wm Dg
set_option linter.unusedVariables false
set_option linter.unusedSimpArgs false

/-- what may be, as a structure -/
structure OkPs (l : List PairP) : Prop where
  up : ∀ i (h : i + 1 < l.length), lt (l[i]'(by omega)).key l[i + 1].key = true
  key : ∀ p ∈ l, p.key ≠ [] ∧ p.key.length ≤ 16
  val : ∀ p ∈ l, p.val.length ≤ 64
  ver : ∀ p ∈ l, 1 ≤ p.ver ∧ p.ver ≤ 1099511627775
  n : l.length ≤ 32
theorem okPair_parts {l : List PairP} {i : Nat} {p : PairP} (h : okPair l i p = true) : (p.key ≠ [] ∧ p.key.length ≤ 16) ∧ p.val.length ≤ 64 ∧ (1 ≤ p.ver ∧ p.ver ≤ 1099511627775) ∧ keyPrev l i p.key = true := by
  unfold okPair inB at h
  simp only [Bool.and_eq_true, Bool.not_eq_true', decide_eq_true_eq] at h
  obtain ⟨h1, h2, h3, h4, h5⟩ := h
  refine ⟨⟨fun e => ?_, h2⟩, h3, ?_, h5⟩
  · rw [e] at h1; cases h1
  · first | exact h4 | exact ⟨h4.1, h4.2⟩ | (simp at h4; omega)
theorem pairsB_get {l : List PairP} (h : pairsB l = true) {i : Nat} (hi : i < l.length) : okPair l i l[i] = true := by
  unfold pairsB at h
  rw [Bool.and_eq_true] at h
  have := List.all_eq_true.1 h.1 i (List.mem_range.2 hi)
  rw [List.getElem?_eq_getElem hi] at this
  exact this
theorem pairsB_ok {l : List PairP} (h : pairsB l = true) : OkPs l := by
  have hg : ∀ p ∈ l, ∃ i, ∃ hi : i < l.length, l[i] = p ∧ okPair l i p = true := fun p hp => by
    obtain ⟨i, hi, e⟩ := List.getElem_of_mem hp
    exact ⟨i, hi, e, by rw [← e]; exact pairsB_get h hi⟩
  refine ⟨fun i hi => ?_, fun p hp => ?_, fun p hp => ?_, fun p hp => ?_, ?_⟩
  · have := (okPair_parts (pairsB_get h hi)).2.2.2
    rw [keyPrev, List.getElem?_eq_getElem (show i < l.length by omega)] at this
    have h2 : (!(strGe l[i].key l[i + 1].key)) = true := this
    unfold strGe at h2
    rw [Bool.not_not] at h2
    exact h2
  · obtain ⟨i, hi, _, ho⟩ := hg p hp; exact (okPair_parts ho).1
  · obtain ⟨i, hi, _, ho⟩ := hg p hp; exact (okPair_parts ho).2.1
  · obtain ⟨i, hi, _, ho⟩ := hg p hp; exact (okPair_parts ho).2.2.1
  · unfold pairsB at h
    rw [Bool.and_eq_true, decide_eq_true_eq] at h
    exact h.2
theorem OkPs.lt {l : List PairP} (h : OkPs l) {i : Nat} : ∀ (j : Nat) (hij : i < j) (hj : j < l.length), Dg.lt (l[i]'(by omega)).key l[j].key = true
  | 0, h1, _ => by omega
  | j + 1, h1, hj => by
    rcases Nat.lt_or_ge i j with h2 | h2
    · exact lt_trans (OkPs.lt h j h2 (by omega)) (h.up j hj)
    · have : i = j := by omega
      subst this
      exact h.up i hj

/-- the place of a key -/
def place (l : List PairP) (key : List UInt8) : Nat := l.findIdx (fun p => !(lt p.key key))
def isK (l : List PairP) (key : List UInt8) : Bool := decide (l[place l key]?.map PairP.key = some key)
theorem place_le (l : List PairP) (key : List UInt8) : place l key ≤ l.length := List.findIdx_le_length
theorem place_lo {l : List PairP} {key : List UInt8} {i : Nat} (hi : i < l.length) (h : i < place l key) : lt l[i].key key = true := by
  have := List.not_of_lt_findIdx h
  simpa using this
theorem place_hi {l : List PairP} (ho : OkPs l) {key : List UInt8} {i : Nat} (hi : i < l.length) (h : place l key ≤ i) : lt l[i].key key = false := by
  have hp : place l key < l.length := by omega
  have h1 : lt l[place l key].key key = false := by
    have h2 : (!(lt (l[place l key]'hp).key key)) = true := List.findIdx_getElem (p := fun p : PairP => !(lt p.key key)) (xs := l) (w := hp)
    rw [Bool.not_eq_true'] at h2
    exact h2
  rcases Nat.lt_or_ge (place l key) i with h2 | h2
  · cases h3 : lt l[i].key key
    · rfl
    · have := lt_trans (ho.lt i h2 hi) h3
      rw [h1] at this; cases this
  · have e : i = place l key := by omega
    subst e
    exact h1
theorem place_of {l : List PairP} {key : List UInt8} {k : Nat} (hk : k ≤ l.length) (h1 : ∀ i (hi : i < l.length), i < k → lt l[i].key key = true) (h2 : ∀ (hk : k < l.length), lt l[k].key key = false) : place l key = k := by
  rcases Nat.lt_trichotomy (place l key) k with h | h | h
  · have hp : place l key < l.length := by omega
    have h3 : lt l[place l key].key key = false := by
      have h2 : (!(lt (l[place l key]'hp).key key)) = true := List.findIdx_getElem (p := fun p : PairP => !(lt p.key key)) (xs := l) (w := hp)
      rw [Bool.not_eq_true'] at h2
      exact h2
    rw [h1 _ hp h] at h3; cases h3
  · exact h
  · have hkl : k < l.length := Nat.lt_of_lt_of_le h (place_le l key)
    have := place_lo hkl h
    rw [h2 hkl] at this; cases this
theorem isK_at {l : List PairP} {key : List UInt8} (h : isK l key = true) : ∃ hk : place l key < l.length, l[place l key].key = key := by
  unfold isK at h
  rw [decide_eq_true_eq] at h
  rcases Nat.lt_or_ge (place l key) l.length with h1 | h1
  · rw [List.getElem?_eq_getElem h1] at h
    exact ⟨h1, by simpa using h⟩
  · rw [List.getElem?_eq_none h1] at h; cases h
theorem isK_no {l : List PairP} (ho : OkPs l) {key : List UInt8} (h : isK l key = false) {i : Nat} (hi : i < l.length) : l[i].key ≠ key := by
  intro e
  have h1 : place l key = i := place_of (by omega) (fun j hj hji => by rw [← e]; exact ho.lt i hji hi) (fun _ => by rw [e]; exact lt_irr _)
  unfold isK at h
  rw [h1, List.getElem?_eq_getElem hi] at h
  simp [e] at h
/-- another place has another key -/
theorem key_ne {l : List PairP} (ho : OkPs l) {i j : Nat} (hi : i < l.length) (hj : j < l.length) (h : i ≠ j) : l[i].key ≠ l[j].key := by
  rcases Nat.lt_or_ge i j with h1 | h1
  · exact lt_ne (ho.lt j h1 hj)
  · exact (lt_ne (ho.lt i (by omega) hi)).symm

def zeroP : PairP := ⟨[], [], 0⟩
def oldK (l : List PairP) (key : List UInt8) : PairP := if isK l key then l.getD (place l key) zeroP else zeroP
structure ResV where
  kind : Int
  val : List UInt8
  ver : Int
  keys : List (List UInt8)
structure CmdP where
  kind : Int
  key : List UInt8
  val : List UInt8
  iff : Int
def fullK (l : List PairP) (key val : List UInt8) : Bool := decide (64 < val.length) || (!isK l key && decide (l.length = 32)) || (isK l key && decide ((oldK l key).ver = 1099511627775))
def newK (l : List PairP) (key val : List UInt8) : PairP := ⟨key, val, (oldK l key).ver + 1⟩
def putL (l : List PairP) (key val : List UInt8) : List PairP := l.take (place l key) ++ newK l key val :: l.drop (place l key + if isK l key then 1 else 0)
def putK (l : List PairP) (key val : List UInt8) : List PairP × ResV := if fullK l key val then (l, ⟨4, [], 0, []⟩) else (putL l key val, ⟨1, [], (oldK l key).ver + 1, []⟩)
/-- does a text begin with another? -/
def pre (key x : List UInt8) : Bool := decide (key.length ≤ x.length) && (x.take key.length == key)
def lim (n : Int) (xs : List (List UInt8)) : List (List UInt8) := if n = 0 then xs else xs.take n.toNat
def keysK (l : List PairP) (key : List UInt8) (n : Int) : List (List UInt8) := lim n (((l.drop (place l key)).takeWhile (fun p => pre key p.key)).map PairP.key)
def doK (l : List PairP) (c : CmdP) : List PairP × ResV :=
  if c.kind = 1 then putK l c.key c.val
  else if c.kind = 5 then putK l c.key ((oldK l c.key).val ++ c.val)
  else if c.kind = 4 then
    (if isK l c.key = false ∧ 0 < c.iff then (l, ⟨2, [], 0, []⟩)
     else if (oldK l c.key).ver ≠ c.iff then (l, ⟨3, (oldK l c.key).val, (oldK l c.key).ver, []⟩)
     else putK l c.key c.val)
  else if c.kind = 6 then (l, ⟨1, [], 0, keysK l c.key c.iff⟩)
  else if isK l c.key = false then (l, ⟨2, [], 0, []⟩)
  else if c.kind = 3 then (l.eraseIdx (place l c.key), ⟨1, [], (oldK l c.key).ver, []⟩)
  else (l, ⟨1, (oldK l c.key).val, (oldK l c.key).ver, []⟩)
def applyK (l : List PairP) (c : CmdP) : List PairP × ResV := if isCommand c.kind c.key c.val c.iff && pairsB l then doK l c else (l, ⟨5, [], 0, []⟩)

/-! the reference's ways -/
/-- the number of a key's pair among the first so many; -1: none -/
def firstK (key : List UInt8) : List PairP → Option Nat
  | [] => none
  | p :: r => if p.key == key then some 0 else (firstK key r).map (· + 1)
/-- pairs with x put at its place, so far -/
def outR (l : List PairP) (key : List UInt8) (x : PairP) (i : Nat) : List PairP :=
  if i ≤ place l key then l.take i else l.take (place l key) ++ x :: (l.take i).drop (place l key + if isK l key then 1 else 0)
theorem outR_zero (l : List PairP) (key : List UInt8) (x : PairP) : outR l key x 0 = [] := by
  unfold outR
  rw [if_pos (Nat.zero_le _)]
  rfl
theorem take_snocP {l : List PairP} {i : Nat} (hi : i < l.length) : l.take (i + 1) = l.take i ++ [l[i]] := by
  rw [List.take_add_one, List.getElem?_eq_getElem hi]; rfl
/-- before the place: as it is -/
theorem outR_lo {l : List PairP} {key : List UInt8} {x : PairP} {i : Nat} (hi : i < l.length) (h : i < place l key) : outR l key x (i + 1) = outR l key x i ++ [l[i]] := by
  unfold outR
  rw [if_pos (by omega), if_pos (by omega), take_snocP hi]
/-- at the place, where the key is not there -/
theorem outR_new {l : List PairP} {key : List UInt8} {x : PairP} {i : Nat} (hi : i < l.length) (h : i = place l key) (hk : isK l key = false) : outR l key x (i + 1) = outR l key x i ++ [x] ++ [l[i]] := by
  unfold outR
  rw [if_neg (show ¬ i + 1 ≤ place l key by omega), if_pos (show i ≤ place l key by omega), if_neg (show ¬ isK l key = true by rw [hk]; decide), ← h, Nat.add_zero]
  rw [take_snocP hi, List.drop_append_of_le_length (by simp; omega)]
  simp
/-- at the place, where it is there -/
theorem outR_old {l : List PairP} {key : List UInt8} {x : PairP} {i : Nat} (hi : i < l.length) (h : i = place l key) (hk : isK l key = true) : outR l key x (i + 1) = outR l key x i ++ [x] := by
  unfold outR
  rw [if_neg (show ¬ i + 1 ≤ place l key by omega), if_pos (show i ≤ place l key by omega), if_pos hk, ← h]
  rw [List.drop_of_length_le (by simp; omega)]
/-- behind the place -/
theorem outR_hi {l : List PairP} {key : List UInt8} {x : PairP} {i : Nat} (hi : i < l.length) (h : place l key < i) : outR l key x (i + 1) = outR l key x i ++ [l[i]] := by
  unfold outR
  rw [if_neg (show ¬ i + 1 ≤ place l key by omega), if_neg (show ¬ i ≤ place l key by omega), take_snocP hi, List.drop_append_of_le_length (by
    rw [List.length_take]
    cases isK l key <;> simp <;> omega)]
  simp
theorem outR_end {l : List PairP} {key : List UInt8} (val : List UInt8) : (if place l key < l.length then outR l key (newK l key val) l.length else outR l key (newK l key val) l.length ++ [newK l key val]) = putL l key val := by
  unfold outR putL
  by_cases h : place l key < l.length
  · rw [if_pos h, if_neg (show ¬ l.length ≤ place l key by omega), List.take_length]
  · have e : place l key = l.length := by have := place_le l key; omega
    have hk : isK l key = false := by
      cases h1 : isK l key
      · rfl
      · obtain ⟨h2, _⟩ := isK_at h1; omega
    rw [if_neg h, if_pos (show l.length ≤ place l key by omega), e, hk]
    simp
theorem firstK_some {l : List PairP} (ho : OkPs l) {key : List UInt8} (h : isK l key = true) {i : Nat} (hi : i < l.length) : (l[i].key == key) = decide (i = place l key) := by
  obtain ⟨hk, e⟩ := isK_at h
  by_cases h1 : i = place l key
  · subst h1
    simp [e]
  · have := key_ne ho hi hk h1
    rw [e] at this
    simp [this, h1]
/-- keys that begin with a text lie one behind the other -/
theorem pre_lt {key x : List UInt8} (h : pre key x = true) : lt x key = false := by
  unfold pre at h
  simp only [Bool.and_eq_true, decide_eq_true_eq, beq_iff_eq] at h
  obtain ⟨h1, h2⟩ := h
  have e : x = key ++ x.drop key.length := by
    conv => lhs; rw [← List.take_append_drop key.length x, h2]
  rw [e]
  generalize x.drop key.length = r
  clear e h1 h2
  induction key with
  | nil => exact lt_nil _
  | cons a k ih =>
    simp only [lt] at ih
    simp only [lt, List.cons_append, Op.bytesLess]
    simp [ih]
/-- between a text and one that begins with it lie only such -/
theorem pre_mid : ∀ {key x y : List UInt8}, lt x key = false → lt x y = true → pre key y = true → pre key x = true
  | [], _, _, _, _, _ => by simp [pre]
  | a :: k, [], _, h, _, _ => by simp [lt, Op.bytesLess] at h
  | a :: k, b :: x, [], _, h, _ => by simp [lt, Op.bytesLess] at h
  | a :: k, b :: x, c :: y, h1, h2, h3 => by
    have h3' : c = a ∧ pre k y = true := by
      simp only [pre, List.length_cons, Nat.add_le_add_iff_right, List.take_succ_cons, Bool.and_eq_true, decide_eq_true_eq, beq_iff_eq, List.cons.injEq] at h3 ⊢
      exact ⟨h3.2.1, h3.1, h3.2.2⟩
    obtain ⟨rfl, h4⟩ := h3'
    have h1' : ¬ b < c ∧ (b = c → lt x k = false) := by
      simp only [lt, Op.bytesLess, Bool.or_eq_false_iff, decide_eq_false_iff_not, Bool.and_eq_false_iff] at h1
      refine ⟨h1.1, fun e => ?_⟩
      rcases h1.2 with h | h
      · simp [e] at h
      · exact h
    have h2' : b < c ∨ (b = c ∧ lt x y = true) := by
      simpa [lt, Op.bytesLess] using h2
    rcases h2' with h | ⟨rfl, h⟩
    · exact absurd h h1'.1
    · have := pre_mid (h1'.2 rfl) h h4
      unfold pre at this ⊢
      simpa using this
theorem filter_while {α : Type} {p : α → Bool} : ∀ {l : List α}, (∀ i j (hi : i < l.length) (hj : j < l.length), i < j → p l[j] = true → p l[i] = true) → l.filter p = l.takeWhile p
  | [], _ => rfl
  | x :: r, h => by
    cases hx : p x
    · rw [List.filter_cons_of_neg (by simp [hx]), List.takeWhile_cons_of_neg (by simp [hx])]
      refine List.filter_eq_nil_iff.2 (fun y hy => ?_)
      obtain ⟨j, hj, rfl⟩ := List.getElem_of_mem hy
      intro hp
      have := h 0 (j + 1) (by simp) (by simpa using hj) (by omega) hp
      simp [hx] at this
    · rw [List.filter_cons_of_pos (by simp [hx]), List.takeWhile_cons_of_pos (by simp [hx]), filter_while (fun i j hi hj hij hp => h (i + 1) (j + 1) (by simpa using hi) (by simpa using hj) (by omega) hp)]
/-- keys that begin with a text, of a list that may be: from its place on -/
theorem keys_filter {l : List PairP} (ho : OkPs l) (key : List UInt8) : l.filter (fun p => pre key p.key) = (l.drop (place l key)).takeWhile (fun p => pre key p.key) := by
  have e : l.filter (fun p => pre key p.key) = (l.take (place l key)).filter (fun p => pre key p.key) ++ (l.drop (place l key)).filter (fun p => pre key p.key) := by
    rw [← List.filter_append, List.take_append_drop]
  have e1 : (l.take (place l key)).filter (fun p => pre key p.key) = [] := by
    refine List.filter_eq_nil_iff.2 (fun y hy => ?_)
    obtain ⟨j, hj, rfl⟩ := List.getElem_of_mem hy
    rw [List.length_take] at hj
    rw [List.getElem_take]
    intro hp
    have h1 := pre_lt hp
    rw [place_lo (by omega) (by omega)] at h1
    cases h1
  rw [e, e1, List.nil_append]
  refine filter_while (fun i j hi hj hij hp => ?_)
  rw [List.length_drop] at hi hj
  rw [List.getElem_drop] at hp ⊢
  exact pre_mid (place_hi ho (by omega) (by omega)) (ho.lt _ (by omega) (by omega)) hp
theorem takeWhile_stop {α : Type} {p : α → Bool} : ∀ {l : List α} {j : Nat}, j ≤ l.length → (∀ i (hi : i < l.length), i < j → p l[i] = true) → (∀ (hj : j < l.length), p l[j] = false) → l.takeWhile p = l.take j
  | [], j, _, _, _ => by simp
  | x :: r, 0, _, _, h => by
    have := h (by simp)
    rw [List.takeWhile_cons_of_neg (by simpa using this)]
    rfl
  | x :: r, j + 1, h1, h2, h3 => by
    have h4 := h2 0 (by simp) (by omega)
    rw [List.takeWhile_cons_of_pos (by simpa using h4), List.take_succ_cons, takeWhile_stop (l := r) (j := j) (by simpa using h1) (fun i hi hij => h2 (i + 1) (by simpa using hi) (by omega)) (fun hj => h3 (by simpa using hj))]
theorem takeWhile_more {α : Type} {p : α → Bool} : ∀ {l : List α} {j : Nat}, j ≤ l.length → (∀ i (hi : i < l.length), i < j → p l[i] = true) → (l.takeWhile p).take j = l.take j
  | [], j, _, _ => by simp
  | x :: r, 0, _, _ => by simp
  | x :: r, j + 1, h1, h2 => by
    have h4 := h2 0 (by simp) (by omega)
    rw [List.takeWhile_cons_of_pos (by simpa using h4), List.take_succ_cons, List.take_succ_cons, takeWhile_more (l := r) (j := j) (by simpa using h1) (fun i hi hij => h2 (i + 1) (by simpa using hi) (by omega))]
/-- where the program's loop stops -/
theorem keys_stop {l : List PairP} {key : List UInt8} {n : Int} {j : Nat} (hj : place l key + j ≤ l.length) (hp : ∀ i (hi : place l key + i < l.length), i < j → pre key l[place l key + i].key = true) (hn : n = 0 ∨ (j : Int) ≤ n)
    (hs : place l key + j = l.length ∨ (∃ h : place l key + j < l.length, pre key l[place l key + j].key = false) ∨ (n ≠ 0 ∧ n ≤ (j : Int))) : keysK l key n = ((l.drop (place l key)).take j).map PairP.key := by
  have hl : (l.drop (place l key)).length = l.length - place l key := List.length_drop
  have hp' : ∀ i (hi : i < (l.drop (place l key)).length), i < j → pre key (l.drop (place l key))[i].key = true := fun i hi hij => by rw [List.getElem_drop]; exact hp i (by omega) hij
  unfold keysK lim
  by_cases hc : n ≠ 0 ∧ n ≤ (j : Int)
  · have e : n.toNat = j := by rcases hn with h | h <;> omega
    rw [if_neg hc.1, e, ← List.map_take, takeWhile_more (by omega) hp']
  · have hstop : ∀ (h : j < (l.drop (place l key)).length), pre key (l.drop (place l key))[j].key = false := fun h => by
      rw [List.getElem_drop]
      rcases hs with h1 | ⟨h1, h2⟩ | h1
      · omega
      · exact h2
      · exact absurd h1 hc
    rw [takeWhile_stop (j := j) (by omega) hp' hstop]
    by_cases h0 : n = 0
    · rw [if_pos h0]
    · rw [if_neg h0, List.take_of_length_le]
      rw [List.length_map, List.length_take]
      rcases hn with h | h <;> omega
/-- what the reference has collected so far -/
def keysR (l : List PairP) (key : List UInt8) (n : Int) (i : Nat) : List (List UInt8) := lim n (((l.take i).filter (fun p => pre key p.key)).map PairP.key)
theorem keysR_step {l : List PairP} {key : List UInt8} {n : Int} (hn : 0 ≤ n) {i : Nat} (hi : i < l.length) :
    keysR l key n (i + 1) = if pre key l[i].key && (n == 0 || decide (((keysR l key n i).length : Int) < n)) then keysR l key n i ++ [l[i].key] else keysR l key n i := by
  unfold keysR
  rw [take_snocP hi, List.filter_append, List.map_append]
  generalize ((l.take i).filter (fun p => pre key p.key)).map PairP.key = xs
  cases hp : pre key l[i].key
  · simp [hp]
  · simp only [List.filter_cons, hp, if_true, List.filter_nil, List.map_cons, List.map_nil, Bool.true_and]
    unfold lim
    by_cases h0 : n = 0
    · simp [h0]
    · have h0' : (n == 0) = false := by simpa using h0
      rw [if_neg h0, if_neg h0, h0', Bool.false_or, List.length_take]
      by_cases h1 : xs.length < n.toNat
      · rw [if_pos (by rw [decide_eq_true_eq]; omega), List.take_of_length_le (by simp; omega), List.take_of_length_le (by omega)]
      · rw [if_neg (by rw [decide_eq_true_eq]; omega), List.take_append_of_le_length (by omega)]
theorem keysR_end {l : List PairP} (ho : OkPs l) (key : List UInt8) (n : Int) : keysR l key n l.length = keysK l key n := by
  unfold keysR keysK
  rw [List.take_length, keys_filter ho]
theorem keysR_zero (l : List PairP) (key : List UInt8) (n : Int) : keysR l key n 0 = [] := by
  unfold keysR lim
  simp
/-- how long things get -/
theorem putL_len (l : List PairP) (key val : List UInt8) : (putL l key val).length ≤ l.length + 1 := by
  unfold putL
  rw [List.length_append, List.length_cons, List.length_take, List.length_drop]
  have := place_le l key
  split <;> omega
theorem erase_take {l : List PairP} {k : Nat} : ∀ i, ((l.take i).eraseIdx k) = (l.take i).take k ++ (l.take i).drop (k + 1) := fun i => List.eraseIdx_eq_take_drop_succ _ _
end Go.Proofs.YtnmlkoidmacinaaDoor.Kv
