/-
  KvMap, plain: what one command does to a map and to the list of what was put there last. No program in sight.
-/
import Derived.Test.YtfgmpfkbflpiaaaKg
namespace Go.Proofs.Ytfgmpfkbflpiaaa.Kv
open Wm Dg
set_option linter.unusedVariables false

theorem ok_pairsB {l : List PairP} (h : OkPs l) : pairsB l = true := by
  unfold pairsB
  rw [pairsB_all (fun i p hi hp => ?_), decide_eq_true h.n]
  · rfl
  obtain ⟨_, e⟩ := List.getElem?_eq_some_iff.1 hp
  have hm : p ∈ l := e ▸ List.getElem_mem hi
  unfold okPair inB
  have h1 := h.key p hm
  have h2 := h.val p hm
  have h3 := h.ver p hm
  have h4 : keyPrev l i p.key = true := by
    cases i with
    | zero => rfl
    | succ j =>
      rw [keyPrev, List.getElem?_eq_getElem (show j < l.length by omega)]
      show (!(strGe l[j].key p.key)) = true
      unfold strGe
      rw [Bool.not_not, ← e]
      exact h.up j hi
  have h0 : (p.key == []) = false := beq_eq_false_iff_ne.2 h1.1
  simp [h0, h1.2, h2, h3.1, h3.2, h4]
/-- commands as the law turns them -/
theorem norm_cmd {kd : Nat} (hkd : kd < 6) {key val : List UInt8} (hk : key ≠ []) (hk4 : key.length ≤ 4) (hv : val.length ≤ 20) (hz : kd = 1 ∨ kd = 2 ∨ kd = 5 → val = []) : isCommand (1 + (kd : Int)) key val 0 = true := by
  have h0 : (key == []) = false := beq_eq_false_iff_ne.2 hk
  have h1 : decide (key.length ≤ 16) = true := decide_eq_true (by omega)
  have h2 : decide (val.length ≤ 64) = true := decide_eq_true (by omega)
  unfold isCommand inB
  rw [h0, h1, h2]
  have h : kd = 0 ∨ kd = 1 ∨ kd = 2 ∨ kd = 3 ∨ kd = 4 ∨ kd = 5 := by omega
  rcases h with rfl | rfl | rfl | rfl | rfl | rfl
  · rfl
  · rw [hz (Or.inl rfl)]; rfl
  · rw [hz (Or.inr (Or.inl rfl))]; rfl
  · rfl
  · rfl
  · rw [hz (Or.inr (Or.inr rfl))]; rfl
theorem applyK_ok {p : List PairP} {c : CmdP} (h : OkPs p) (hc : isCommand c.kind c.key c.val c.iff = true) : applyK p c = doK p c := by
  unfold applyK
  rw [hc, ok_pairsB h]
  rfl
theorem MapInv.none {p : List PairP} {keys vals : List (List UInt8)} {n : Nat} (h : MapInv p keys vals n) {key : List UInt8} (hno : key ∉ keys) : isK p key = false := by
  cases hi : isK p key
  · rfl
  · exact absurd ((h.mem key).2 hi) hno
theorem MapInv.some {p : List PairP} {keys vals : List (List UInt8)} {n : Nat} (h : MapInv p keys vals n) {a : Nat} (ha : a < keys.length) : isK p keys[a] = true ∧ (oldK p keys[a]).val = vals.getD a [] ∧ 1 ≤ (oldK p keys[a]).ver ∧ (oldK p keys[a]).ver ≤ n := by
  have h1 := (h.get a ha).1
  have h2 := (h.get a ha).2
  have hm := (oldK_at h1).1
  refine ⟨h1, by rw [List.getD_eq_getElem?_getD, h2]; rfl, (h.ok.ver _ hm).1, h.ver _ hm⟩
/-- what a command puts -/
def putV (kind : Int) (old val : List UInt8) : List UInt8 := if kind = 5 then old ++ val else val
theorem map_new {p : List PairP} {keys vals : List (List UInt8)} {n : Nat} (h : MapInv p keys vals n) {c : CmdP} (hc : isCommand c.kind c.key c.val c.iff = true) (hk : c.key ≠ [] ∧ c.key.length ≤ 16) (hno : c.key ∉ keys) (hp : c.kind = 1 ∨ c.kind = 5 ∨ c.kind = 4) (hif : c.iff = 0) (hr : keys.length < 32) (hv : (putV c.kind [] c.val).length ≤ 64) :
    ∃ p', applyK p c = (p', ⟨1, [], 1, []⟩) ∧ MapInv p' (keys ++ [c.key]) (vals ++ [putV c.kind [] c.val]) (n + 1) := by
  have hi := h.none hno
  have hold : oldK p c.key = zeroP := oldK_no hi
  have hput : doK p c = putK p c.key (putV c.kind [] c.val) := by
    unfold doK putV
    rcases hp with e | e | e
    · rw [if_pos e, if_neg (by rw [e]; decide)]
    · rw [if_neg (by rw [e]; decide), if_pos e, if_pos e, hold]; rfl
    · rw [if_neg (by rw [e]; decide), if_neg (by rw [e]; decide), if_pos e, if_neg (by rw [hif]; exact fun h => absurd h.2 (by decide)), if_neg (by rw [hold, hif]; exact fun h => h rfl), if_neg (by rw [e]; decide)]
  have hf : fullK p c.key (putV c.kind [] c.val) = false := by
    unfold fullK
    rw [hi, decide_eq_false (by omega), decide_eq_false (by have := h.len; omega)]
    rfl
  refine ⟨putL p c.key (putV c.kind [] c.val), ?_, h.putNew hk hf hi⟩
  rw [applyK_ok h.ok hc, hput]
  unfold putK
  rw [hf, if_neg (by decide), hold]
  rfl
theorem map_old {p : List PairP} {keys vals : List (List UInt8)} {n : Nat} (h : MapInv p keys vals n) (hn : n ≤ 1048576) {c : CmdP} (hc : isCommand c.kind c.key c.val c.iff = true) (hk : c.key ≠ [] ∧ c.key.length ≤ 16) {a : Nat} (ha : a < keys.length) (hka : keys[a] = c.key) (hp : c.kind = 1 ∨ c.kind = 5) (hv : (putV c.kind (vals.getD a []) c.val).length ≤ 64) :
    ∃ p' r, applyK p c = (p', r) ∧ r.kind = 1 ∧ MapInv p' keys (vals.set a (putV c.kind (vals.getD a []) c.val)) (n + 1) := by
  obtain ⟨h1, h2, h3, h4⟩ := h.some ha
  rw [hka] at h1 h2 h3 h4
  have hput : doK p c = putK p c.key (putV c.kind (vals.getD a []) c.val) := by
    unfold doK putV
    rcases hp with e | e
    · rw [if_pos e, if_neg (by rw [e]; decide)]
    · rw [if_neg (by rw [e]; decide), if_pos e, if_pos e, h2]
  have hf : fullK p c.key (putV c.kind (vals.getD a []) c.val) = false := by
    unfold fullK
    rw [h1, decide_eq_false (by omega), decide_eq_false (p := (oldK p c.key).ver = 1099511627775) (by omega)]
    rfl
  refine ⟨putL p c.key (putV c.kind (vals.getD a []) c.val), ⟨1, [], (oldK p c.key).ver + 1, []⟩, ?_, rfl, h.putOld hk hf ha hka⟩
  rw [applyK_ok h.ok hc, hput]
  unfold putK
  rw [hf, if_neg (by decide)]
theorem map_del {p : List PairP} {keys vals : List (List UInt8)} {n : Nat} (h : MapInv p keys vals n) {c : CmdP} (hc : isCommand c.kind c.key c.val c.iff = true) {a : Nat} (ha : a < keys.length) (hka : keys[a] = c.key) (hp : c.kind = 3) :
    ∃ p' r, applyK p c = (p', r) ∧ r.kind = 1 ∧ MapInv p' (keys.eraseIdx a) (vals.eraseIdx a) (n + 1) := by
  obtain ⟨h1, _⟩ := h.some ha
  rw [hka] at h1
  refine ⟨p.eraseIdx (place p c.key), ⟨1, [], (oldK p c.key).ver, []⟩, ?_, rfl, (h.del ha hka).mono (by omega)⟩
  rw [applyK_ok h.ok hc]
  unfold doK
  rw [if_neg (by rw [hp]; decide), if_neg (by rw [hp]; decide), if_neg (by rw [hp]; decide), if_neg (by rw [hp]; decide), if_neg (by rw [h1]; decide), if_pos hp]
/-- nothing is put, nothing is deleted -/
theorem map_same {p : List PairP} {keys vals : List (List UInt8)} {n : Nat} (h : MapInv p keys vals n) {c : CmdP} (hc : isCommand c.kind c.key c.val c.iff = true) (hif : c.iff = 0) (old : List UInt8) (here : Bool)
    (hat : (here = false ∧ old = [] ∧ c.key ∉ keys) ∨ (here = true ∧ ∃ a, ∃ ha : a < keys.length, keys[a] = c.key ∧ old = vals.getD a []))
    (hput : ((c.kind = 1 ∨ c.kind = 5 ∨ (c.kind = 4 ∧ here = false)) → (here = true ∨ keys.length < 32) → ¬ (putV c.kind old c.val).length ≤ 64)) (hdel : ¬ (c.kind = 3 ∧ here = true)) :
    ∃ r, applyK p c = (p, r) ∧ MapInv p keys vals (n + 1) := by
  have hk6 : c.kind = 1 ∨ c.kind = 2 ∨ c.kind = 3 ∨ c.kind = 4 ∨ c.kind = 5 ∨ c.kind = 6 := by
    have h1 := hc
    unfold isCommand inB at h1
    simp only [Bool.and_eq_true, decide_eq_true_eq] at h1
    omega
  refine (?_ : ∃ r, applyK p c = (p, r)).imp fun r hr => ⟨hr, h.mono (by omega)⟩
  rw [applyK_ok h.ok hc]
  have hfull : (c.kind = 1 ∨ c.kind = 5 ∨ (c.kind = 4 ∧ here = false)) → fullK p c.key (putV c.kind old c.val) = true := fun hp => by
    have h1 := hput hp
    unfold fullK
    by_cases h64 : (putV c.kind old c.val).length ≤ 64
    · have h2 : ¬ (here = true ∨ keys.length < 32) := fun h => h1 h h64
      have h3 : isK p c.key = false := by
        rcases hat with ⟨_, _, e⟩ | ⟨e, _⟩
        · exact h.none e
        · exact absurd (Or.inl e) h2
      have h4 : p.length = 32 := by
        have := h.ok.n
        have := h.len
        have : ¬ keys.length < 32 := fun e => h2 (Or.inr e)
        omega
      rw [h3, decide_eq_true h4]
      simp
    · rw [decide_eq_true (show 64 < (putV c.kind old c.val).length by omega)]
      rfl
  have hfk : (c.kind = 1 ∨ c.kind = 5 ∨ (c.kind = 4 ∧ here = false)) → putK p c.key (putV c.kind old c.val) = (p, ⟨4, [], 0, []⟩) := fun hp => by unfold putK; rw [hfull hp, if_pos rfl]
  unfold doK
  rcases hk6 with e | e | e | e | e | e
  · have := hfk (Or.inl e)
    unfold putV at this
    rw [if_neg (by rw [e]; decide)] at this
    rw [if_pos e]
    exact ⟨_, this⟩
  · rw [if_neg (by rw [e]; decide), if_neg (by rw [e]; decide), if_neg (by rw [e]; decide), if_neg (by rw [e]; decide)]
    split
    · exact ⟨_, rfl⟩
    · rw [if_neg (by rw [e]; decide)]
      exact ⟨_, rfl⟩
  · rw [if_neg (by rw [e]; decide), if_neg (by rw [e]; decide), if_neg (by rw [e]; decide), if_neg (by rw [e]; decide)]
    have hf : isK p c.key = false := by
      rcases hat with ⟨_, _, h1⟩ | ⟨h1, _⟩
      · exact h.none h1
      · exact absurd ⟨e, h1⟩ hdel
    rw [if_pos hf]
    exact ⟨_, rfl⟩
  · rw [if_neg (by rw [e]; decide), if_neg (by rw [e]; decide), if_pos e]
    rcases hat with ⟨hh, ho, h1⟩ | ⟨hh, a, ha, hka, ho⟩
    · have := hfk (Or.inr (Or.inr ⟨e, hh⟩))
      unfold putV at this
      rw [if_neg (by rw [e]; decide)] at this
      rw [if_neg (by rw [hif]; exact fun h => absurd h.2 (by decide)), if_neg (by rw [oldK_no (h.none h1), hif]; exact fun h => h rfl)]
      exact ⟨_, this⟩
    · obtain ⟨g1, _, g3, _⟩ := h.some ha
      rw [hka] at g1 g3
      rw [if_neg (by rw [g1]; exact fun h => absurd h.1 (by decide)), if_pos (by rw [hif]; omega)]
      exact ⟨_, rfl⟩
  · have := hfk (Or.inr (Or.inl e))
    unfold putV at this
    rw [if_pos e] at this
    have ho : (oldK p c.key).val = old := by
      rcases hat with ⟨_, ho, h1⟩ | ⟨_, a, ha, hka, ho⟩
      · rw [oldK_no (h.none h1), ho]; rfl
      · obtain ⟨_, g2, _⟩ := h.some ha
        rw [hka] at g2
        rw [g2, ho]
    rw [if_neg (by rw [e]; decide), if_pos e, ho]
    exact ⟨_, this⟩
  · rw [if_neg (by rw [e]; decide), if_neg (by rw [e]; decide), if_neg (by rw [e]; decide), if_pos e]
    exact ⟨_, rfl⟩
/-- Get gives what was put last -/
theorem map_get {p : List PairP} {keys vals : List (List UInt8)} {n : Nat} (h : MapInv p keys vals n) {k : Nat} (hk : k < keys.length) :
    applyK p ⟨2, keys[k], [], 0⟩ = (p, ⟨1, vals.getD k [], (oldK p keys[k]).ver, []⟩) := by
  obtain ⟨h1, h2, _, _⟩ := h.some hk
  obtain ⟨h3, h4⟩ := oldK_at h1
  have h5 := h.ok.key _ h3
  rw [h4] at h5
  have h0 : (keys[k] == ([] : List UInt8)) = false := beq_eq_false_iff_ne.2 h5.1
  have hc : isCommand 2 keys[k] [] 0 = true := by
    unfold isCommand inB
    rw [h0, decide_eq_true h5.2]
    decide
  rw [applyK_ok (c := ⟨2, keys[k], [], 0⟩) h.ok hc]
  unfold doK
  rw [if_neg (show ¬ (2 : Int) = 1 by decide), if_neg (show ¬ (2 : Int) = 5 by decide), if_neg (show ¬ (2 : Int) = 4 by decide), if_neg (show ¬ (2 : Int) = 6 by decide), if_neg (by rw [h1]; decide), if_neg (show ¬ (2 : Int) = 3 by decide), h2]
end Go.Proofs.Ytfgmpfkbflpiaaa.Kv
