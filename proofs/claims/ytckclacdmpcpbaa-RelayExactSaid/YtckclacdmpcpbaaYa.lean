/-
  Relays, and three hosts that talk, in plain lists: whatever comes, what has come is a beginning of what was sent; once packets come it is all of it. No program in sight.
-/
import Derived.Test.YtckclacdmpcpbaaFa
namespace Go.Proofs.Ytckclacdmpcpbaa.Rl
open Mm
set_option linter.unusedVariables false
set_option linter.unusedSimpArgs false

structure PktP where
  frm : Int
  to : Int
  num : Int
  ack : Bool
  body : List UInt8
deriving DecidableEq
structure ParP where
  frm : Int
  body : List UInt8
deriving DecidableEq



/-- a relay: its number; of each host how many were sent, what waits, how many came -/
structure RelP where
  id : Int
  sent : Nat → Nat
  wait : Nat → List PktP
  came : Nat → Nat
def newP (id : Int) : RelP := ⟨id, fun _ => 0, fun _ => [], fun _ => 0⟩
/-- may a packet be sent to that host? -/
def mayTo (id to : Int) : Bool := decide (1 ≤ to) && decide (to ≤ 9) && !(to == id)
def sentP (r : RelP) (t : Nat) (body : List UInt8) : RelP :=
  { r with sent := upd r.sent t (r.sent t + 1), wait := upd r.wait t (r.wait t ++ [⟨r.id, t, r.sent t + 1, false, body⟩]) }
def sendP (r : RelP) (to : Int) (body : List UInt8) : RelP × Int :=
  if mayTo r.id to then (if (r.wait to.toNat).length = 16 then (r, 4) else (sentP r to.toNat body, 0)) else (r, 13)
def packetsP (r : RelP) : List PktP := (List.range 10).flatMap r.wait
def mayCome (id : Int) (x : PktP) : Bool := (x.to == id) && mayTo id x.frm && decide (1 ≤ x.num)
def ackedP (r : RelP) (f : Nat) (n : Int) : RelP := { r with wait := upd r.wait f ((r.wait f).filter fun w => !(decide (w.num ≤ n) && decide (n < r.sent f + 1))) }
def cameP (r : RelP) (f : Nat) : RelP := { r with came := upd r.came f (r.came f + 1) }
def ackOf (r : RelP) (f : Nat) : PktP := ⟨r.id, f, r.came f, true, []⟩
def recvP (r : RelP) (x : PktP) : RelP × List ParP × List PktP :=
  if mayCome r.id x then
    (let f := x.frm.toNat
     if x.ack then (ackedP r f x.num, [], [])
     else if x.num = r.came f + 1 then (cameP r f, [⟨x.frm, x.body⟩], [ackOf (cameP r f) f])
     else if r.came f = 0 then (r, [], []) else (r, [], [ackOf r f]))
  else (r, [], [])

/-- three hosts that talk -/
structure TalkP where
  hosts : Nat → RelP
  way : List PktP
  sent : Nat → List (List UInt8)
  came : Nat → List (List UInt8)
  known : Nat → Int
def talks0 : TalkP := ⟨fun i => newP (i + 1), [], fun _ => [], fun _ => [], fun _ => 0⟩
def sendT (t : TalkP) (h to : Nat) (body : List UInt8) : TalkP × Bool :=
  let r := sendP (t.hosts h) (to + 1) body
  let t1 := { t with hosts := upd t.hosts h r.1 }
  if 16 ≤ ((t.sent (4 * h + to)).length : Int) - t.known (4 * h + to) then (t1, r.2 == 4)
  else ({ t1 with sent := upd t.sent (4 * h + to) (t.sent (4 * h + to) ++ [body]) }, r.2 == 0)
def isHost (n : Int) : Bool := decide (1 ≤ n) && decide (n ≤ 3)
def knownP (k : Nat → Int) (back : Nat) (p : PktP) : Nat → Int := if p.ack ∧ k back < p.num then upd k back p.num else k
def comesT (t : TalkP) (p : PktP) : TalkP × Bool :=
  if isHost p.to && isHost p.frm then
    (let j := (p.to - 1).toNat
     let i := (p.frm - 1).toNat
     let r := recvP (t.hosts j) p
     (⟨upd t.hosts j r.1, t.way ++ r.2.2, t.sent, upd t.came (4 * i + j) (t.came (4 * i + j) ++ r.2.1.map (·.body)), knownP t.known (4 * j + i) p⟩, decide (r.2.2.length < 2)))
  else (t, false)
def rightT (t : TalkP) : Bool :=
  (List.range 16).all fun k => decide ((t.came k).length ≤ (t.sent k).length) && decide (t.known k ≤ (t.came k).length) && (t.came k == (t.sent k).take (t.came k).length)

/-- what waits at host i for host j, behind a acknowledged ones -/
def Wt (i j a : Nat) (s : List (List UInt8)) : List PktP := (List.range' a (s.length - a)).map fun (m : Nat) => ⟨(i : Int) + 1, (j : Int) + 1, (m : Int) + 1, false, s.getD m []⟩
theorem Wt_len (i j a : Nat) (s : List (List UInt8)) : (Wt i j a s).length = s.length - a := by simp [Wt]
theorem Wt_more (i j a : Nat) (s : List (List UInt8)) (b : List UInt8) (h : a ≤ s.length) : Wt i j a (s ++ [b]) = Wt i j a s ++ [⟨(i : Int) + 1, (j : Int) + 1, (s.length : Int) + 1, false, b⟩] := by
  unfold Wt
  have e : (s ++ [b]).length - a = (s.length - a) + 1 := by rw [List.length_append]; simp; omega
  rw [e, List.range'_1_concat, List.map_append]
  congr 1
  · refine List.map_congr_left fun m hm => ?_
    have := List.mem_range'_1.1 hm
    have hl : m < s.length := by omega
    simp [List.getD_eq_getElem?_getD, List.getElem?_append_left hl]
  · have e2 : a + (s.length - a) = s.length := by omega
    simp [e2]
theorem Wt_drop (i j a : Nat) (s : List (List UInt8)) (n : Nat) (h : n ≤ s.length) (ha : a ≤ s.length) : (Wt i j a s).filter (fun w => !(decide (w.num ≤ (n : Int)) && decide ((n : Int) < (s.length : Int) + 1))) = Wt i j (max a n) s := by
  unfold Wt
  have e0 : s.length - a = (max a n - a) + (s.length - max a n) := by omega
  rw [List.filter_map]
  have hf : (fun m : Nat => !(decide (((⟨(i : Int) + 1, (j : Int) + 1, (m : Int) + 1, false, s.getD m []⟩ : PktP)).num ≤ (n : Int)) && decide ((n : Int) < (s.length : Int) + 1))) = fun m => decide (n ≤ m) := by
    funext m
    simp only [show decide ((n : Int) < (s.length : Int) + 1) = true from decide_eq_true (by omega), Bool.and_true]
    by_cases hm : n ≤ m
    · rw [decide_eq_true hm, decide_eq_false (by omega)]; rfl
    · rw [decide_eq_false hm, decide_eq_true (by omega)]; rfl
  show List.map _ (List.filter (fun m : Nat => !(decide (((⟨(i : Int) + 1, (j : Int) + 1, (m : Int) + 1, false, s.getD m []⟩ : PktP)).num ≤ (n : Int)) && decide ((n : Int) < (s.length : Int) + 1))) _) = _
  rw [hf]
  congr 1
  rw [e0, ← List.range'_append_1, List.filter_append]
  have h1 : (List.range' a (max a n - a)).filter (fun m => decide (n ≤ m)) = [] := by
    rw [List.filter_eq_nil_iff]
    intro m hm
    have := List.mem_range'_1.1 hm
    simp; omega
  have h2 : (List.range' (a + (max a n - a)) (s.length - max a n)).filter (fun m => decide (n ≤ m)) = List.range' (a + (max a n - a)) (s.length - max a n) := by
    rw [List.filter_eq_self]
    intro m hm
    have := List.mem_range'_1.1 hm
    simp; omega
  rw [h1, h2, List.nil_append]
  congr 1
  omega

def pairB (n : Nat) : Bool := decide (n / 4 < 3) && decide (n % 4 < 3) && !(n / 4 == n % 4)
/-- host i's packets for host j, and what is known of them -/
structure Lane (t : TalkP) (i j : Nat) (a : Nat) : Prop where
  nsent : (t.hosts i).sent (j + 1) = (t.sent (4 * i + j)).length
  ncame : (t.hosts j).came (i + 1) = (t.came (4 * i + j)).length
  known : t.known (4 * i + j) = (a : Int)
  le1 : a ≤ (t.came (4 * i + j)).length
  le2 : (t.came (4 * i + j)).length ≤ (t.sent (4 * i + j)).length
  pre : t.came (4 * i + j) = (t.sent (4 * i + j)).take (t.came (4 * i + j)).length
  few : (t.sent (4 * i + j)).length ≤ a + 16
  wait : (t.hosts i).wait (j + 1) = Wt i j a (t.sent (4 * i + j))
/-- a packet that may be on its way -/
def Fine (t : TalkP) (p : PktP) : Prop := ∃ i j : Nat, i < 3 ∧ j < 3 ∧ i ≠ j ∧ p.frm = (i : Int) + 1 ∧ p.to = (j : Int) + 1 ∧
  (p.ack = true → ∃ n : Nat, p.num = (n : Int) ∧ 1 ≤ n ∧ n ≤ (t.came (4 * j + i)).length) ∧
  (p.ack = false → ∃ n : Nat, p.num = (n : Int) + 1 ∧ n < (t.sent (4 * i + j)).length ∧ p.body = (t.sent (4 * i + j)).getD n [])
structure Inv (t : TalkP) : Prop where
  id : ∀ i, i < 3 → (t.hosts i).id = (i : Int) + 1
  lane : ∀ i j, i < 3 → j < 3 → i ≠ j → ∃ a, Lane t i j a
  none : ∀ i k, i < 3 → ¬ (1 ≤ k ∧ k < 4 ∧ k ≠ i + 1) → (t.hosts i).wait k = []
  void : ∀ n, n < 16 → pairB n = false → t.sent n = [] ∧ t.came n = [] ∧ t.known n = 0
  way : ∀ p ∈ t.way, Fine t p
theorem inv0 : Inv talks0 := by
  refine ⟨fun i _ => rfl, fun i j _ _ _ => ⟨0, ⟨rfl, rfl, rfl, Nat.le_refl _, Nat.le_refl _, rfl, Nat.zero_le _, rfl⟩⟩, fun _ _ _ _ => rfl, fun _ _ _ => ⟨rfl, rfl, rfl⟩, fun p hp => by cases hp⟩
theorem pair_ne {i j k l : Nat} (hj : j < 4) (hl : l < 4) (h : 4 * i + j = 4 * k + l) : i = k ∧ j = l := by omega
/-- a thing that was sent -/
theorem inv_send {t : TalkP} (h : Inv t) {i j : Nat} (hi : i < 3) (hj : j < 3) (hij : i ≠ j) (body : List UInt8) : (sendT t i j body).2 = true ∧ Inv (sendT t i j body).1 := by
  obtain ⟨a, L⟩ := h.lane i j hi hj hij
  have hid := h.id i hi
  have hmay : mayTo (t.hosts i).id ((j : Int) + 1) = true := by
    unfold mayTo
    rw [hid]
    have : ¬ ((j : Int) + 1 = (i : Int) + 1) := by omega
    simp [this]
    omega
  have htn : ((j : Int) + 1).toNat = j + 1 := by omega
  have hwl : ((t.hosts i).wait (j + 1)).length = (t.sent (4 * i + j)).length - a := by rw [L.wait, Wt_len]
  have hle1 := L.le1
  have hle2 := L.le2
  have hfew := L.few
  by_cases hfull : 16 ≤ ((t.sent (4 * i + j)).length : Int) - t.known (4 * i + j)
  · have hw16 : ((t.hosts i).wait (j + 1)).length = 16 := by rw [hwl]; rw [L.known] at hfull; omega
    have e : sendP (t.hosts i) ((j : Int) + 1) body = (t.hosts i, 4) := by unfold sendP; rw [if_pos hmay, htn, if_pos hw16]
    unfold sendT
    simp only [e]
    rw [if_pos hfull]
    refine ⟨rfl, ?_⟩
    have e2 : upd t.hosts i (t.hosts i) = t.hosts := by funext k; unfold upd; split <;> simp_all
    rw [e2]
    exact h
  · have hw16 : ¬ ((t.hosts i).wait (j + 1)).length = 16 := by rw [hwl]; rw [L.known] at hfull; omega
    have e : sendP (t.hosts i) ((j : Int) + 1) body = (sentP (t.hosts i) (j + 1) body, 0) := by unfold sendP; rw [if_pos hmay, htn, if_neg hw16]
    unfold sendT
    simp only [e]
    rw [if_neg hfull]
    refine ⟨rfl, ⟨fun k hk => ?_, fun k l hk hl hkl => ?_, fun k l hk hl => ?_, fun n hn hp => ?_, fun p hp => ?_⟩⟩
    · show (upd t.hosts i _ k).id = _
      by_cases hki : k = i
      · subst hki; rw [upd_same]; exact hid
      · rw [upd_ne _ _ hki]; exact h.id k hk
    · by_cases hsame : k = i ∧ l = j
      · obtain ⟨rfl, rfl⟩ := hsame
        refine ⟨a, ⟨?_, ?_, L.known, L.le1, ?_, ?_, ?_, ?_⟩⟩
        · show (upd t.hosts k (sentP (t.hosts k) (l + 1) body) k).sent (l + 1) = (upd t.sent (4 * k + l) _ (4 * k + l)).length
          rw [upd_same, upd_same, List.length_append]
          show upd (t.hosts k).sent (l + 1) _ (l + 1) = _
          rw [upd_same, L.nsent]; rfl
        · show (upd t.hosts k _ l).came (k + 1) = _
          rw [upd_ne _ _ (Ne.symm hkl)]; exact L.ncame
        · show _ ≤ (upd t.sent (4 * k + l) _ (4 * k + l)).length
          rw [upd_same, List.length_append]; simp; omega
        · show t.came (4 * k + l) = (upd t.sent (4 * k + l) _ (4 * k + l)).take (t.came (4 * k + l)).length
          rw [upd_same, List.take_append_of_le_length hle2]; exact L.pre
        · show (upd t.sent (4 * k + l) _ (4 * k + l)).length ≤ _
          rw [upd_same, List.length_append]; rw [L.known] at hfull; simp; omega
        · show (upd t.hosts k (sentP (t.hosts k) (l + 1) body) k).wait (l + 1) = Wt k l a (upd t.sent (4 * k + l) _ (4 * k + l))
          rw [upd_same, upd_same, Wt_more k l a _ body (by omega), ← L.wait]
          show upd (t.hosts k).wait (l + 1) _ (l + 1) = _
          rw [upd_same, L.nsent, hid]
          simp
      · obtain ⟨b, M⟩ := h.lane k l hk hl hkl
        have hidx : 4 * k + l ≠ 4 * i + j := fun e => hsame (pair_ne (by omega) (by omega) e)
        have hs : upd t.sent (4 * i + j) (t.sent (4 * i + j) ++ [body]) (4 * k + l) = t.sent (4 * k + l) := upd_ne _ _ hidx
        refine ⟨b, ⟨?_, ?_, M.known, M.le1, ?_, ?_, ?_, ?_⟩⟩
        · show (upd t.hosts i (sentP (t.hosts i) (j + 1) body) k).sent (l + 1) = (upd t.sent (4 * i + j) _ (4 * k + l)).length
          rw [hs]
          by_cases hki : k = i
          · subst hki
            rw [upd_same]
            show upd (t.hosts k).sent (j + 1) _ (l + 1) = _
            rw [upd_ne _ _ (by omega)]; exact M.nsent
          · rw [upd_ne _ _ hki]; exact M.nsent
        · show (upd t.hosts i (sentP (t.hosts i) (j + 1) body) l).came (k + 1) = _
          by_cases hli : l = i
          · subst hli; rw [upd_same]; exact M.ncame
          · rw [upd_ne _ _ hli]; exact M.ncame
        · show _ ≤ (upd t.sent (4 * i + j) _ (4 * k + l)).length
          rw [hs]; exact M.le2
        · show _ = (upd t.sent (4 * i + j) _ (4 * k + l)).take _
          rw [hs]; exact M.pre
        · show (upd t.sent (4 * i + j) _ (4 * k + l)).length ≤ _
          rw [hs]; exact M.few
        · show (upd t.hosts i (sentP (t.hosts i) (j + 1) body) k).wait (l + 1) = Wt k l b (upd t.sent (4 * i + j) _ (4 * k + l))
          rw [hs]
          by_cases hki : k = i
          · subst hki
            rw [upd_same]
            show upd (t.hosts k).wait (j + 1) _ (l + 1) = _
            rw [upd_ne _ _ (by omega)]; exact M.wait
          · rw [upd_ne _ _ hki]; exact M.wait
    · show (upd t.hosts i (sentP (t.hosts i) (j + 1) body) k).wait l = []
      by_cases hki : k = i
      · subst hki
        rw [upd_same]
        show upd (t.hosts k).wait (j + 1) _ l = _
        rw [upd_ne _ _ (by omega)]; exact h.none k l hk hl
      · rw [upd_ne _ _ hki]; exact h.none k l hk hl
    · have hne : n ≠ 4 * i + j := by
        intro e
        subst e
        unfold pairB at hp
        have e1 : (4 * i + j) / 4 = i := by omega
        have e2 : (4 * i + j) % 4 = j := by omega
        rw [e1, e2] at hp
        simp [hi, hj, hij] at hp
      show upd t.sent (4 * i + j) _ n = [] ∧ _
      rw [upd_ne _ _ hne]; exact h.void n hn hp
    · obtain ⟨k, l, hk, hl, hkl, h1, h2, h3, h4⟩ := h.way p hp
      refine ⟨k, l, hk, hl, hkl, h1, h2, h3, fun ha => ?_⟩
      obtain ⟨n, hn1, hn2, hn3⟩ := h4 ha
      refine ⟨n, hn1, ?_⟩
      show n < (upd t.sent (4 * i + j) _ (4 * k + l)).length ∧ p.body = (upd t.sent (4 * i + j) _ (4 * k + l)).getD n []
      by_cases hidx : 4 * k + l = 4 * i + j
      · rw [← hidx, upd_same, List.length_append]
        refine ⟨by omega, ?_⟩
        rw [hn3, List.getD_eq_getElem?_getD, List.getD_eq_getElem?_getD, List.getElem?_append_left hn2]
      · rw [upd_ne _ _ hidx]; exact ⟨hn2, hn3⟩
theorem fine_mono {t t' : TalkP} (hs : t'.sent = t.sent) (hc : ∀ n, (t.came n).length ≤ (t'.came n).length) {p : PktP} (h : Fine t p) : Fine t' p := by
  obtain ⟨i, j, hi, hj, hij, h1, h2, h3, h4⟩ := h
  refine ⟨i, j, hi, hj, hij, h1, h2, fun ha => ?_, fun ha => ?_⟩
  · obtain ⟨n, e, h5, h6⟩ := h3 ha
    exact ⟨n, e, h5, Nat.le_trans h6 (hc _)⟩
  · rw [hs]; exact h4 ha
theorem fine_host {t : TalkP} {p : PktP} (h : Fine t p) : isHost p.to = true ∧ isHost p.frm = true := by
  obtain ⟨i, j, hi, hj, hij, h1, h2, h3, h4⟩ := h
  unfold isHost
  rw [h1, h2]
  simp; omega
theorem fine_may {t : TalkP} (hI : Inv t) {p : PktP} {i j : Nat} (hi : i < 3) (hj : j < 3) (hij : i ≠ j) (h1 : p.frm = (i : Int) + 1) (h2 : p.to = (j : Int) + 1) (hn : 1 ≤ p.num) : mayCome (t.hosts j).id p = true := by
  unfold mayCome mayTo
  rw [hI.id j hj, h1, h2]
  have : ¬ ((i : Int) + 1 = (j : Int) + 1) := by omega
  simp [this, hn]
  omega
/-- what comes of a packet -/
structure Step (t : TalkP) (p : PktP) (t' : TalkP) (i j : Nat) : Prop where
  inv : Inv t'
  sent : t'.sent = t.sent
  came : ∀ n, (t.came n).length ≤ (t'.came n).length
  known : ∀ n, t.known n ≤ t'.known n
  acks : ∃ l : List PktP, t'.way = t.way ++ l ∧ (∀ q ∈ l, q.ack = true) ∧ l.length ≤ (if p.ack then 0 else 1)
  isAck : p.ack = true → p.num ≤ t'.known (4 * j + i)
  isData : p.ack = false → ∀ n : Nat, p.num = (n : Int) + 1 → n ≤ (t.came (4 * i + j)).length → n + 1 ≤ (t'.came (4 * i + j)).length ∧ ∃ q ∈ t'.way, q.ack = true ∧ q.frm = (j : Int) + 1 ∧ q.to = (i : Int) + 1 ∧ q.num = ((t'.came (4 * i + j)).length : Int)

theorem comes_ack {t : TalkP} (h : Inv t) {p : PktP} {i j n : Nat} (hi : i < 3) (hj : j < 3) (hij : i ≠ j) (h1 : p.frm = (i : Int) + 1) (h2 : p.to = (j : Int) + 1) (ha : p.ack = true) (hn : p.num = (n : Int)) (hn1 : 1 ≤ n) (hn2 : n ≤ (t.came (4 * j + i)).length) :
    (comesT t p).2 = true ∧ Step t p (comesT t p).1 i j := by
  obtain ⟨a, L⟩ := h.lane j i hj hi (Ne.symm hij)
  have hmay := fine_may h hi hj hij h1 h2 (by omega)
  have htn : p.frm.toNat = i + 1 := by omega
  have hj' : (p.to - 1).toNat = j := by omega
  have hi' : (p.frm - 1).toNat = i := by omega
  have hle1 := L.le1
  have hle2 := L.le2
  have e : recvP (t.hosts j) p = (ackedP (t.hosts j) (i + 1) p.num, [], []) := by unfold recvP; rw [if_pos hmay]; simp only [htn, ha, if_true]
  have hh : (isHost p.to && isHost p.frm) = true := by unfold isHost; rw [h1, h2]; simp; omega
  have ec : comesT t p = (⟨upd t.hosts j (ackedP (t.hosts j) (i + 1) p.num), t.way, t.sent, t.came, knownP t.known (4 * j + i) p⟩, true) := by
    unfold comesT
    rw [if_pos hh]
    simp only [hj', hi', e, List.map_nil, List.append_nil, upd_self]
    rfl
  rw [ec]
  have hk : ∀ m, knownP t.known (4 * j + i) p m = if m = 4 * j + i then ((max a n : Nat) : Int) else t.known m := by
    intro m
    unfold knownP
    rw [L.known, hn]
    by_cases hlt : (a : Int) < n
    · rw [if_pos ⟨ha, hlt⟩]
      unfold upd
      split
      · omega
      · rfl
    · rw [if_neg (fun h => hlt h.2)]
      split
      · rename_i hm; rw [hm, L.known]; omega
      · rfl
  refine ⟨rfl, ⟨⟨fun k hk2 => ?_, fun k l hk2 hl hkl => ?_, fun k l hk2 hl => ?_, fun m hm hp => ?_, fun q hq => ?_⟩, rfl, fun _ => Nat.le_refl _, fun m => ?_, ⟨[], by simp, (fun q hq => by cases hq), Nat.zero_le _⟩, fun _ => ?_, fun hd => by rw [ha] at hd; cases hd⟩⟩
  · show (upd t.hosts j _ k).id = _
    by_cases hkj : k = j
    · subst hkj; rw [upd_same]; exact h.id k hk2
    · rw [upd_ne _ _ hkj]; exact h.id k hk2
  · by_cases hsame : k = j ∧ l = i
    · obtain ⟨rfl, rfl⟩ := hsame
      refine ⟨max a n, ⟨?_, ?_, ?_, ?_, L.le2, L.pre, ?_, ?_⟩⟩
      · show (upd t.hosts k _ k).sent _ = _
        rw [upd_same]; exact L.nsent
      · show (upd t.hosts k _ l).came _ = _
        rw [upd_ne _ _ (Ne.symm hkl)]; exact L.ncame
      · show knownP _ _ _ _ = _
        rw [hk, if_pos rfl]
      · show _ ≤ (t.came (4 * k + l)).length
        omega
      · have := L.few
        show (t.sent (4 * k + l)).length ≤ _
        omega
      · show (upd t.hosts k (ackedP (t.hosts k) (l + 1) p.num) k).wait (l + 1) = Wt k l (max a n) (t.sent (4 * k + l))
        rw [upd_same]
        show upd (t.hosts k).wait (l + 1) _ (l + 1) = _
        rw [upd_same, L.wait, L.nsent, hn]
        exact Wt_drop k l a _ n (by omega) (by omega)
    · obtain ⟨b, M⟩ := h.lane k l hk2 hl hkl
      have hidx : 4 * k + l ≠ 4 * j + i := fun e => hsame (pair_ne (by omega) (by omega) e)
      refine ⟨b, ⟨?_, ?_, ?_, M.le1, M.le2, M.pre, M.few, ?_⟩⟩
      · show (upd t.hosts j _ k).sent _ = _
        by_cases hkj : k = j
        · subst hkj; rw [upd_same]; exact M.nsent
        · rw [upd_ne _ _ hkj]; exact M.nsent
      · show (upd t.hosts j _ l).came _ = _
        by_cases hlj : l = j
        · subst hlj; rw [upd_same]; exact M.ncame
        · rw [upd_ne _ _ hlj]; exact M.ncame
      · show knownP _ _ _ _ = _
        rw [hk, if_neg hidx]; exact M.known
      · show (upd t.hosts j (ackedP (t.hosts j) (i + 1) p.num) k).wait (l + 1) = _
        by_cases hkj : k = j
        · subst hkj
          rw [upd_same]
          show upd (t.hosts k).wait (i + 1) _ (l + 1) = _
          rw [upd_ne _ _ (by omega)]; exact M.wait
        · rw [upd_ne _ _ hkj]; exact M.wait
  · show (upd t.hosts j (ackedP (t.hosts j) (i + 1) p.num) k).wait l = []
    by_cases hkj : k = j
    · subst hkj
      rw [upd_same]
      show upd (t.hosts k).wait (i + 1) _ l = _
      rw [upd_ne _ _ (by omega)]; exact h.none k l hk2 hl
    · rw [upd_ne _ _ hkj]; exact h.none k l hk2 hl
  · have hne : m ≠ 4 * j + i := by
      intro e
      subst e
      unfold pairB at hp
      have e1 : (4 * j + i) / 4 = j := by omega
      have e2 : (4 * j + i) % 4 = i := by omega
      rw [e1, e2] at hp
      simp [hi, hj, Ne.symm hij] at hp
    have := h.void m hm hp
    refine ⟨this.1, this.2.1, ?_⟩
    show knownP _ _ _ _ = _
    rw [hk, if_neg hne]; exact this.2.2
  · refine fine_mono ?_ ?_ (h.way q hq) <;> first | rfl | exact fun _ => Nat.le_refl _
  · show t.known m ≤ knownP _ _ _ _
    rw [hk]
    split
    · rename_i hm; rw [hm, L.known]; omega
    · exact Int.le_refl _
  · show p.num ≤ knownP _ _ _ _
    rw [hk, if_pos rfl, hn]; omega
theorem comes_data {t : TalkP} (h : Inv t) {p : PktP} {i j n : Nat} (hi : i < 3) (hj : j < 3) (hij : i ≠ j) (h1 : p.frm = (i : Int) + 1) (h2 : p.to = (j : Int) + 1) (ha : p.ack = false) (hn : p.num = (n : Int) + 1) (hn2 : n < (t.sent (4 * i + j)).length) (hb : p.body = (t.sent (4 * i + j)).getD n []) :
    (comesT t p).2 = true ∧ Step t p (comesT t p).1 i j := by
  obtain ⟨a, L⟩ := h.lane i j hi hj hij
  have hmay := fine_may h hi hj hij h1 h2 (by omega)
  have htn : p.frm.toNat = i + 1 := by omega
  have hj' : (p.to - 1).toNat = j := by omega
  have hi' : (p.frm - 1).toNat = i := by omega
  have hle1 := L.le1
  have hle2 := L.le2
  have hh : (isHost p.to && isHost p.frm) = true := by unfold isHost; rw [h1, h2]; simp; omega
  have hkn : knownP t.known (4 * j + i) p = t.known := by unfold knownP; rw [if_neg (fun h => by rw [ha] at h; cases h.1)]
  have hxy : 4 * i + j ≠ 4 * j + i := by omega
  by_cases hnew : p.num = ((t.hosts j).came (i + 1) : Int) + 1
  · have hnm : n = (t.came (4 * i + j)).length := by rw [hn, L.ncame] at hnew; omega
    have e : recvP (t.hosts j) p = (cameP (t.hosts j) (i + 1), [⟨p.frm, p.body⟩], [ackOf (cameP (t.hosts j) (i + 1)) (i + 1)]) := by
      unfold recvP
      rw [if_pos hmay]
      simp only [htn, ha]
      rw [if_neg (by simp), if_pos hnew]
    have ec : comesT t p = (⟨upd t.hosts j (cameP (t.hosts j) (i + 1)), t.way ++ [ackOf (cameP (t.hosts j) (i + 1)) (i + 1)], t.sent, upd t.came (4 * i + j) (t.came (4 * i + j) ++ [p.body]), t.known⟩, true) := by
      unfold comesT
      rw [if_pos hh]
      simp only [hj', hi', e, hkn]
      rfl
    rw [ec]
    have hcl : ∀ m, (t.came m).length ≤ (upd t.came (4 * i + j) (t.came (4 * i + j) ++ [p.body]) m).length := fun m => by
      unfold upd
      split
      · rename_i hm; rw [hm, List.length_append]; omega
      · exact Nat.le_refl _
    have hack : ackOf (cameP (t.hosts j) (i + 1)) (i + 1) = ⟨(j : Int) + 1, (i : Int) + 1, ((t.came (4 * i + j)).length : Int) + 1, true, []⟩ := by
      unfold ackOf cameP
      simp only [upd_same, h.id j hj, L.ncame]
      simp
    have hcame : upd t.came (4 * i + j) (t.came (4 * i + j) ++ [p.body]) (4 * i + j) = t.came (4 * i + j) ++ [p.body] := upd_same _ _ _
    refine ⟨rfl, ⟨⟨fun k hk2 => ?_, fun k l hk2 hl hkl => ?_, fun k l hk2 hl => ?_, fun m hm hp => ?_, fun q hq => ?_⟩, rfl, hcl, fun m => Int.le_refl _, ⟨_, rfl, (fun q hq => by simp at hq; subst hq; rfl), by rw [ha]; exact Nat.le_refl _⟩, (fun hd => by rw [ha] at hd; cases hd), fun _ n' hn' hle => ⟨?_, ⟨_, List.mem_append_right _ (List.mem_singleton.2 rfl), rfl, ?_, ?_, ?_⟩⟩⟩⟩
    · show (upd t.hosts j _ k).id = _
      by_cases hkj : k = j
      · subst hkj; rw [upd_same]; exact h.id k hk2
      · rw [upd_ne _ _ hkj]; exact h.id k hk2
    · by_cases hsame : k = i ∧ l = j
      · obtain ⟨rfl, rfl⟩ := hsame
        refine ⟨a, ⟨?_, ?_, L.known, ?_, ?_, ?_, L.few, ?_⟩⟩
        · show (upd t.hosts l _ k).sent _ = _
          rw [upd_ne _ _ hkl]; exact L.nsent
        · show (upd t.hosts l (cameP (t.hosts l) (k + 1)) l).came (k + 1) = (upd t.came (4 * k + l) _ (4 * k + l)).length
          rw [upd_same, hcame, List.length_append]
          show upd (t.hosts l).came (k + 1) _ (k + 1) = _
          rw [upd_same, L.ncame]; rfl
        · show a ≤ (upd t.came (4 * k + l) _ (4 * k + l)).length
          rw [hcame, List.length_append]; omega
        · show (upd t.came (4 * k + l) _ (4 * k + l)).length ≤ (t.sent (4 * k + l)).length
          rw [hcame, List.length_append]; simp; omega
        · show upd t.came (4 * k + l) _ (4 * k + l) = (t.sent (4 * k + l)).take (upd t.came (4 * k + l) _ (4 * k + l)).length
          rw [hcame, List.length_append]
          show _ = List.take ((t.came (4 * k + l)).length + 1) _
          rw [List.take_add_one, ← L.pre, hb, hnm, List.getD_eq_getElem?_getD, List.getElem?_eq_getElem (by omega)]
          rfl
        · show (upd t.hosts l _ k).wait _ = _
          rw [upd_ne _ _ hkl]; exact L.wait
      · obtain ⟨b, M⟩ := h.lane k l hk2 hl hkl
        have hidx : 4 * k + l ≠ 4 * i + j := fun e => hsame (pair_ne (by omega) (by omega) e)
        have hs : upd t.came (4 * i + j) (t.came (4 * i + j) ++ [p.body]) (4 * k + l) = t.came (4 * k + l) := upd_ne _ _ hidx
        refine ⟨b, ⟨?_, ?_, M.known, ?_, ?_, ?_, M.few, ?_⟩⟩
        · show (upd t.hosts j _ k).sent _ = _
          by_cases hkj : k = j
          · subst hkj; rw [upd_same]; exact M.nsent
          · rw [upd_ne _ _ hkj]; exact M.nsent
        · show (upd t.hosts j (cameP (t.hosts j) (i + 1)) l).came (k + 1) = (upd t.came (4 * i + j) _ (4 * k + l)).length
          rw [hs]
          by_cases hlj : l = j
          · subst hlj
            rw [upd_same]
            show upd (t.hosts l).came (i + 1) _ (k + 1) = _
            rw [upd_ne _ _ (by omega)]; exact M.ncame
          · rw [upd_ne _ _ hlj]; exact M.ncame
        · show _ ≤ (upd t.came (4 * i + j) _ (4 * k + l)).length
          rw [hs]; exact M.le1
        · show (upd t.came (4 * i + j) _ (4 * k + l)).length ≤ _
          rw [hs]; exact M.le2
        · show upd t.came (4 * i + j) _ (4 * k + l) = (t.sent (4 * k + l)).take (upd t.came (4 * i + j) _ (4 * k + l)).length
          rw [hs]; exact M.pre
        · show (upd t.hosts j _ k).wait _ = _
          by_cases hkj : k = j
          · subst hkj; rw [upd_same]; exact M.wait
          · rw [upd_ne _ _ hkj]; exact M.wait
    · show (upd t.hosts j _ k).wait l = []
      by_cases hkj : k = j
      · subst hkj; rw [upd_same]; exact h.none k l hk2 hl
      · rw [upd_ne _ _ hkj]; exact h.none k l hk2 hl
    · have hne : m ≠ 4 * i + j := by
        intro e
        subst e
        unfold pairB at hp
        have e1 : (4 * i + j) / 4 = i := by omega
        have e2 : (4 * i + j) % 4 = j := by omega
        rw [e1, e2] at hp
        simp [hi, hj, hij] at hp
      have := h.void m hm hp
      refine ⟨this.1, ?_, this.2.2⟩
      show upd t.came (4 * i + j) _ m = _
      rw [upd_ne _ _ hne]; exact this.2.1
    · rcases List.mem_append.1 hq with hq | hq
      · refine fine_mono ?_ ?_ (h.way q hq) <;> first | rfl | exact hcl
      · simp at hq
        subst hq
        rw [hack]
        refine ⟨j, i, hj, hi, Ne.symm hij, rfl, rfl, fun _ => ⟨(t.came (4 * i + j)).length + 1, rfl, by omega, ?_⟩, fun hd => by cases hd⟩
        show _ ≤ (upd t.came (4 * i + j) _ (4 * i + j)).length
        rw [hcame, List.length_append]; exact Nat.le_refl _
    · show _ ≤ (upd t.came (4 * i + j) _ (4 * i + j)).length
      rw [hcame, List.length_append]
      have : n' = n := by omega
      simp; omega
    · rw [hack]
    · rw [hack]
    · rw [hack]
      show _ = ((upd t.came (4 * i + j) _ (4 * i + j)).length : Int)
      rw [hcame, List.length_append]; rfl
  · have hc0 := L.ncame
    by_cases hz : (t.hosts j).came (i + 1) = 0
    · have e : recvP (t.hosts j) p = (t.hosts j, [], []) := by
        unfold recvP
        rw [if_pos hmay]
        simp only [htn, ha]
        rw [if_neg (by simp), if_neg hnew, if_pos hz]
      have ec : comesT t p = (t, true) := by
        unfold comesT
        rw [if_pos hh]
        simp only [hj', hi', e, hkn, List.map_nil, List.append_nil, upd_self]
        rfl
      rw [ec]
      refine ⟨rfl, ⟨h, rfl, fun _ => Nat.le_refl _, fun _ => Int.le_refl _, ⟨[], by simp, (fun q hq => by cases hq), Nat.zero_le _⟩, (fun hd => by rw [ha] at hd; cases hd), fun _ n' hn' hle => ?_⟩⟩
      exfalso
      rw [← hc0, hz] at hle
      rw [hz, hn'] at hnew
      omega
    · have e : recvP (t.hosts j) p = (t.hosts j, [], [ackOf (t.hosts j) (i + 1)]) := by
        unfold recvP
        rw [if_pos hmay]
        simp only [htn, ha]
        rw [if_neg (by simp), if_neg hnew, if_neg hz]
      have ec : comesT t p = (⟨t.hosts, t.way ++ [ackOf (t.hosts j) (i + 1)], t.sent, t.came, t.known⟩, true) := by
        unfold comesT
        rw [if_pos hh]
        simp only [hj', hi', e, hkn, List.map_nil, List.append_nil, upd_self]
        rfl
      rw [ec]
      have hack : ackOf (t.hosts j) (i + 1) = ⟨(j : Int) + 1, (i : Int) + 1, ((t.came (4 * i + j)).length : Int), true, []⟩ := by
        unfold ackOf
        simp only [h.id j hj, L.ncame]
        simp
      refine ⟨rfl, ⟨⟨h.id, fun k l hk2 hl hkl => ?_, h.none, h.void, fun q hq => ?_⟩, rfl, fun _ => Nat.le_refl _, fun _ => Int.le_refl _, ⟨_, rfl, (fun q hq => by simp at hq; subst hq; rfl), by rw [ha]; exact Nat.le_refl _⟩, (fun hd => by rw [ha] at hd; cases hd), fun _ n' hn' hle => ⟨?_, ⟨_, List.mem_append_right _ (List.mem_singleton.2 rfl), rfl, ?_, ?_, ?_⟩⟩⟩⟩
      · obtain ⟨b, M⟩ := h.lane k l hk2 hl hkl
        exact ⟨b, ⟨M.nsent, M.ncame, M.known, M.le1, M.le2, M.pre, M.few, M.wait⟩⟩
      · rcases List.mem_append.1 hq with hq | hq
        · refine fine_mono ?_ ?_ (h.way q hq) <;> first | rfl | exact fun _ => Nat.le_refl _
        · simp at hq
          subst hq
          rw [hack]
          exact ⟨j, i, hj, hi, Ne.symm hij, rfl, rfl, fun _ => ⟨(t.came (4 * i + j)).length, rfl, by omega, Nat.le_refl _⟩, fun hd => by cases hd⟩
      · show n' + 1 ≤ (t.came (4 * i + j)).length
        rw [hn', hc0] at hnew
        omega
      · rw [hack]
      · rw [hack]
      · rw [hack]
theorem comes_fine {t : TalkP} (h : Inv t) {p : PktP} (hp : Fine t p) : (comesT t p).2 = true ∧ ∃ i j : Nat, i < 3 ∧ j < 3 ∧ i ≠ j ∧ p.frm = (i : Int) + 1 ∧ p.to = (j : Int) + 1 ∧ Step t p (comesT t p).1 i j := by
  obtain ⟨i, j, hi, hj, hij, h1, h2, h3, h4⟩ := hp
  cases ha : p.ack
  · obtain ⟨n, hn, hlt, hb⟩ := h4 ha
    have := comes_data h hi hj hij h1 h2 ha hn hlt hb
    exact ⟨this.1, i, j, hi, hj, hij, h1, h2, this.2⟩
  · obtain ⟨n, hn, hn1, hn2⟩ := h3 ha
    have := comes_ack h hi hj hij h1 h2 ha hn hn1 hn2
    exact ⟨this.1, i, j, hi, hj, hij, h1, h2, this.2⟩
theorem known_le {t : TalkP} (h : Inv t) {i j : Nat} (hi : i < 3) (hj : j < 3) (hij : i ≠ j) : t.known (4 * i + j) ≤ ((t.came (4 * i + j)).length : Int) ∧ (t.came (4 * i + j)).length ≤ (t.sent (4 * i + j)).length := by
  obtain ⟨a, L⟩ := h.lane i j hi hj hij
  exact ⟨by rw [L.known]; have := L.le1; omega, L.le2⟩
theorem inv_way {t : TalkP} (h : Inv t) {l : List PktP} (hl : ∀ p ∈ l, Fine t p) : Inv { t with way := l } := by
  refine ⟨h.id, fun i j hi hj hij => ?_, h.none, h.void, fun p hp => ?_⟩
  · obtain ⟨a, L⟩ := h.lane i j hi hj hij
    exact ⟨a, ⟨L.nsent, L.ncame, L.known, L.le1, L.le2, L.pre, L.few, L.wait⟩⟩
  · exact fine_mono (t := t) rfl (fun _ => Nat.le_refl _) (hl p hp)
theorem right_of {t : TalkP} (h : Inv t) : rightT t = true := by
  unfold rightT
  rw [List.all_eq_true]
  intro k hk
  have hk16 : k < 16 := by simpa using hk
  have key : (t.came k).length ≤ (t.sent k).length ∧ t.known k ≤ ((t.came k).length : Int) ∧ t.came k = (t.sent k).take (t.came k).length := by
    cases hp : pairB k
    · obtain ⟨h1, h2, h3⟩ := h.void k hk16 hp
      rw [h1, h2, h3]
      exact ⟨Nat.le_refl _, by simp, rfl⟩
    · unfold pairB at hp
      simp only [Bool.and_eq_true, decide_eq_true_eq, Bool.not_eq_true', beq_eq_false_iff_ne] at hp
      obtain ⟨a, L⟩ := h.lane (k / 4) (k % 4) hp.1.1 hp.1.2 hp.2
      have e : 4 * (k / 4) + k % 4 = k := by omega
      have h1 := L.le1; have h2 := L.le2; have h3 := L.pre; have h4 := L.known
      rw [e] at h1 h2 h3 h4
      exact ⟨h2, by omega, h3⟩
  rw [Bool.and_eq_true, Bool.and_eq_true]
  exact ⟨⟨decide_eq_true key.1, decide_eq_true key.2.1⟩, beq_iff_eq.2 key.2.2⟩
theorem fine_packets {t : TalkP} (h : Inv t) {i : Nat} (hi : i < 3) : ∀ p ∈ packetsP (t.hosts i), Fine t p := by
  intro p hp
  unfold packetsP at hp
  obtain ⟨k, hk, hp⟩ := List.mem_flatMap.1 hp
  by_cases hn : 1 ≤ k ∧ k < 4 ∧ k ≠ i + 1
  · obtain ⟨a, L⟩ := h.lane i (k - 1) hi (by omega) (by omega)
    have e : k - 1 + 1 = k := by omega
    have hw := L.wait
    rw [e] at hw
    rw [hw] at hp
    unfold Wt at hp
    obtain ⟨m, hm, rfl⟩ := List.mem_map.1 hp
    have hm' := List.mem_range'_1.1 hm
    refine ⟨i, k - 1, hi, by omega, by omega, rfl, rfl, fun ha => by simp at ha, fun _ => ⟨m, rfl, by omega, rfl⟩⟩
  · rw [h.none i k hi hn] at hp
    cases hp
def weight (l : List PktP) : Nat := (l.map fun p => if p.ack then 1 else 2).sum
theorem weight_app (l m : List PktP) : weight (l ++ m) = weight l + weight m := by simp [weight]
theorem weight_acks : ∀ (l : List PktP), (∀ q ∈ l, q.ack = true) → weight l = l.length
  | [], _ => rfl
  | q :: r, h => by
    have h1 := h q (List.mem_cons_self ..)
    have h2 := weight_acks r (fun q hq => h q (List.mem_cons_of_mem _ hq))
    unfold weight at *
    simp [h1] at *
    omega
theorem weight_le : ∀ l : List PktP, weight l ≤ 2 * l.length
  | [] => Nat.le_refl _
  | q :: r => by
    have h2 := weight_le r
    unfold weight at *
    simp only [List.map_cons, List.sum_cons, List.length_cons]
    split <;> omega
def isData (i j : Nat) (p : PktP) : Bool := !p.ack && (p.frm == (i : Int) + 1) && (p.to == (j : Int) + 1)
/-- all that host i has for host j comes, and is acknowledged -/
def Q (t : TalkP) (i j : Nat) : Prop :=
  t.known (4 * i + j) = ((t.sent (4 * i + j)).length : Int) ∨
  (∃ p ∈ t.way, p.ack = true ∧ p.frm = (j : Int) + 1 ∧ p.to = (i : Int) + 1 ∧ p.num = ((t.sent (4 * i + j)).length : Int)) ∨
  (∃ (m : Nat) (pre : List PktP), m < (t.sent (4 * i + j)).length ∧ m ≤ (t.came (4 * i + j)).length ∧ t.way.filter (isData i j) = pre ++ Wt i j m (t.sent (4 * i + j)))
def AllOf (t : TalkP) (i : Nat) : Prop := ∀ j, j < 3 → j ≠ i → t.known (4 * i + j) = ((t.sent (4 * i + j)).length : Int)
theorem Wt_cons (i j m : Nat) (s : List (List UInt8)) (h : m < s.length) : Wt i j m s = ⟨(i : Int) + 1, (j : Int) + 1, (m : Int) + 1, false, s.getD m []⟩ :: Wt i j (m + 1) s := by
  unfold Wt
  have e : s.length - m = (s.length - (m + 1)) + 1 := by omega
  rw [e, List.range'_succ]
  rfl
theorem Wt_nil (i j : Nat) (s : List (List UInt8)) : Wt i j s.length s = [] := by simp [Wt]
theorem q_step {t : TalkP} (h : Inv t) {p : PktP} {r : List PktP} (hw : t.way = p :: r) {i j : Nat} (hi : i < 3) (hj : j < 3) (hij : i ≠ j) (hq : Q t i j) : Q (comesT { t with way := r } p).1 i j := by
  have h0 : Inv { t with way := r } := inv_way h (fun q hq => h.way q (by rw [hw]; exact List.mem_cons_of_mem _ hq))
  have hp : Fine { t with way := r } p := fine_mono (t := t) rfl (fun _ => Nat.le_refl _) (h.way p (by rw [hw]; exact List.mem_cons_self ..))
  obtain ⟨_, k, l, hk, hl, hkl, e1, e2, S⟩ := comes_fine h0 hp
  obtain ⟨t', ht'⟩ : ∃ t', t' = (comesT { t with way := r } p).1 := ⟨_, rfl⟩
  rw [← ht'] at S ⊢
  have hsent : t'.sent = t.sent := S.sent
  have hkn := known_le S.inv hi hj hij
  obtain ⟨al, ha1, ha2, ha3⟩ := S.acks
  have ha1' : t'.way = r ++ al := ha1
  unfold Q
  rw [hsent]
  rcases hq with hq | ⟨q, hqm, q1, q2, q3, q4⟩ | ⟨m, pre, hm, hc, hf⟩
  · refine Or.inl ?_
    have := S.known (4 * i + j)
    have hx : t.known (4 * i + j) ≤ t'.known (4 * i + j) := this
    rw [hsent] at hkn
    omega
  · rw [hw] at hqm
    rcases List.mem_cons.1 hqm with rfl | hqm
    · refine Or.inl ?_
      have hx := S.isAck q1
      have hkj : k = j := by omega
      have hli : l = i := by omega
      subst hkj hli
      rw [hsent] at hkn
      omega
    · exact Or.inr (Or.inl ⟨q, by rw [ha1']; exact List.mem_append_left _ hqm, q1, q2, q3, q4⟩)
  · rw [hw] at hf
    have hal : al.filter (isData i j) = [] := by
      rw [List.filter_eq_nil_iff]
      intro q hq
      unfold isData
      simp [ha2 q hq]
    have hcm : (t.came (4 * i + j)).length ≤ (t'.came (4 * i + j)).length := S.came _
    cases hd : isData i j p
    · rw [List.filter_cons, hd] at hf
      refine Or.inr (Or.inr ⟨m, pre, hm, Nat.le_trans hc hcm, ?_⟩)
      rw [ha1', List.filter_append, hal, List.append_nil]
      exact hf
    · rw [List.filter_cons, hd] at hf
      simp only [if_true] at hf
      cases pre with
      | cons x pre' =>
        rw [List.cons_append] at hf
        injection hf with _ hf
        refine Or.inr (Or.inr ⟨m, pre', hm, Nat.le_trans hc hcm, ?_⟩)
        rw [ha1', List.filter_append, hal, List.append_nil]
        exact hf
      | nil =>
        rw [List.nil_append, Wt_cons i j m _ hm] at hf
        injection hf with hpe hf
        have hki : k = i := by rw [hpe] at e1; simp at e1; omega
        have hlj : l = j := by rw [hpe] at e2; simp at e2; omega
        subst hki hlj
        have hx := S.isData (by rw [hpe]) m (by rw [hpe]) hc
        by_cases hend : m + 1 < (t.sent (4 * k + l)).length
        · refine Or.inr (Or.inr ⟨m + 1, [], hend, hx.1, ?_⟩)
          rw [ha1', List.filter_append, hal, List.append_nil, List.nil_append]
          exact hf
        · obtain ⟨hx1, q, hq1, hq2, hq3, hq4, hq5⟩ := hx
          refine Or.inr (Or.inl ⟨q, hq1, hq2, hq3, hq4, ?_⟩)
          rw [hsent] at hkn
          rw [hq5]
          omega
theorem q_start {t : TalkP} (h : Inv t) {i j : Nat} (hi : i < 3) (hj : j < 3) (hij : i ≠ j) : Q { t with way := t.way ++ packetsP (t.hosts i) } i j := by
  obtain ⟨a, L⟩ := h.lane i j hi hj hij
  have h1 := L.le1
  have h2 := L.le2
  by_cases he : a = (t.sent (4 * i + j)).length
  · refine Or.inl ?_
    show t.known _ = _
    rw [L.known, he]
  · refine Or.inr (Or.inr ⟨a, t.way.filter (isData i j), by show a < (t.sent (4 * i + j)).length; omega, h1, ?_⟩)
    show (t.way ++ packetsP (t.hosts i)).filter (isData i j) = _
    rw [List.filter_append]
    congr 1
    have hw : ∀ k, k < 10 → ((t.hosts i).wait k).filter (isData i j) = if k = j + 1 then Wt i j a (t.sent (4 * i + j)) else [] := by
      intro k hk
      split
      · rename_i e
        subst e
        rw [L.wait, List.filter_eq_self]
        intro p hp
        unfold Wt at hp
        obtain ⟨m, _, rfl⟩ := List.mem_map.1 hp
        simp [isData]
      · rename_i e
        by_cases hn : 1 ≤ k ∧ k < 4 ∧ k ≠ i + 1
        · obtain ⟨b, M⟩ := h.lane i (k - 1) hi (by omega) (by omega)
          have e2 : k - 1 + 1 = k := by omega
          have hw := M.wait
          rw [e2] at hw
          rw [hw, List.filter_eq_nil_iff]
          intro p hp
          unfold Wt at hp
          obtain ⟨m, _, rfl⟩ := List.mem_map.1 hp
          have : ¬ (((k - 1 : Nat) : Int) + 1 = (j : Int) + 1) := by omega
          simp [isData, this]
        · rw [h.none i k hi hn]; rfl
    show ((List.range 10).flatMap (t.hosts i).wait).filter (isData i j) = _
    have e10 : List.range 10 = [0, 1, 2, 3, 4, 5, 6, 7, 8, 9] := rfl
    rw [e10]
    simp only [List.flatMap_cons, List.flatMap_nil, List.filter_append, hw 0 (by omega), hw 1 (by omega), hw 2 (by omega), hw 3 (by omega), hw 4 (by omega), hw 5 (by omega), hw 6 (by omega), hw 7 (by omega), hw 8 (by omega), hw 9 (by omega)]
    have : j = 0 ∨ j = 1 ∨ j = 2 := by omega
    rcases this with rfl | rfl | rfl <;> simp
theorem q_end {t : TalkP} {i j : Nat} (hq : Q t i j) (hw : t.way = []) : t.known (4 * i + j) = ((t.sent (4 * i + j)).length : Int) := by
  rcases hq with hq | ⟨q, hqm, _⟩ | ⟨m, pre, hm, hc, hf⟩
  · exact hq
  · rw [hw] at hqm; cases hqm
  · rw [hw, Wt_cons i j m _ hm] at hf
    simp at hf
/-- the hosts whose things all came, while host i's come -/
structure Pass (t : TalkP) (i n : Nat) : Prop where
  inv : Inv t
  q : ∀ j, j < 3 → i ≠ j → Q t i j
  all : ∀ k, k < n → k < 3 → AllOf t k
theorem pass_step {t : TalkP} {i n : Nat} (hi : i < 3) (h : Pass t i n) {p : PktP} {r : List PktP} (hw : t.way = p :: r) :
    (comesT { t with way := r } p).2 = true ∧ Pass (comesT { t with way := r } p).1 i n ∧ weight (comesT { t with way := r } p).1.way + 1 ≤ weight t.way := by
  have h0 : Inv { t with way := r } := inv_way h.inv (fun q hq => h.inv.way q (by rw [hw]; exact List.mem_cons_of_mem _ hq))
  have hp : Fine { t with way := r } p := fine_mono (t := t) rfl (fun _ => Nat.le_refl _) (h.inv.way p (by rw [hw]; exact List.mem_cons_self ..))
  obtain ⟨ht, k, l, hk, hl, hkl, e1, e2, S⟩ := comes_fine h0 hp
  refine ⟨ht, ⟨S.inv, fun j hj hij => q_step h.inv hw hi hj hij (h.q j hj hij), fun a ha ha3 b hb hba => ?_⟩, ?_⟩
  · have h1 := h.all a ha ha3 b hb hba
    have h2 : t.known (4 * a + b) ≤ _ := S.known (4 * a + b)
    have h3 := known_le S.inv ha3 hb (Ne.symm hba)
    have h4 : (comesT { t with way := r } p).1.sent = t.sent := S.sent
    rw [h4] at h3 ⊢
    omega
  · obtain ⟨al, ha1, ha2, ha3⟩ := S.acks
    have ha1' : (comesT { t with way := r } p).1.way = r ++ al := ha1
    rw [ha1', hw, weight_app, weight_acks al ha2]
    have e : weight (p :: r) = (if p.ack then 1 else 2) + weight r := by simp [weight]
    rw [e]
    split at ha3 <;> simp_all <;> omega
theorem pass_start {t : TalkP} {i n : Nat} (hi : i < 3) (h : Inv t) (ha : ∀ k, k < n → k < 3 → AllOf t k) : Pass { t with way := t.way ++ packetsP (t.hosts i) } i n :=
  ⟨inv_way h (fun p hp => by
    rcases List.mem_append.1 hp with hp | hp
    · exact h.way p hp
    · exact fine_packets h hi p hp), fun j hj hij => q_start h hi hj hij, ha⟩
theorem pass_end {t : TalkP} {i n : Nat} (h : Pass t i n) (hi : i < 3) (hn : i = n ∨ i < n) (hw : t.way = []) : ∀ k, k < max n (i + 1) → k < 3 → AllOf t k := by
  intro k hk hk3
  by_cases hki : k = i
  · subst hki
    exact fun j hj hjk => q_end (h.q j hj (Ne.symm hjk)) hw
  · exact h.all k (by omega) hk3
theorem all_end {t : TalkP} (h : Inv t) (ha : ∀ k, k < 3 → AllOf t k) : (∀ k, k < 16 → (t.came k).length = (t.sent k).length) ∧ ∀ i, i < 3 → packetsP (t.hosts i) = [] := by
  constructor
  · intro k hk
    cases hp : pairB k
    · obtain ⟨h1, h2, _⟩ := h.void k hk hp
      rw [h1, h2]
    · unfold pairB at hp
      simp only [Bool.and_eq_true, decide_eq_true_eq, Bool.not_eq_true', beq_eq_false_iff_ne] at hp
      have h1 := ha (k / 4) hp.1.1 (k % 4) hp.1.2 (Ne.symm hp.2)
      have h2 := known_le h hp.1.1 hp.1.2 hp.2
      have e : 4 * (k / 4) + k % 4 = k := by omega
      rw [e] at h1 h2
      omega
  · intro i hi
    unfold packetsP
    rw [List.flatMap_eq_nil_iff]
    intro k hk
    by_cases hn : 1 ≤ k ∧ k < 4 ∧ k ≠ i + 1
    · obtain ⟨a, L⟩ := h.lane i (k - 1) hi (by omega) (by omega)
      have e : k - 1 + 1 = k := by omega
      have hw := L.wait
      rw [e] at hw
      have h1 := ha i hi (k - 1) (by omega) (by omega)
      rw [L.known] at h1
      have h2 : a = (t.sent (4 * i + (k - 1))).length := by omega
      rw [hw, h2, Wt_nil]
    · exact h.none i k hi hn
end Go.Proofs.Ytckclacdmpcpbaa.Rl
