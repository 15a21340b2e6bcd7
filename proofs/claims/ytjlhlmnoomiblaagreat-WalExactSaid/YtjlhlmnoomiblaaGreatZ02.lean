/-
  Plain mathematics of numbers and texts as bytes: no program in sight. Opening arguments: slices of plain records, structs, field by field. Over any program.
-/
import Derived.Test.YtjlhlmnoomiblaaGreatRows
import Derived.Test.YtjlhlmnoomiblaaGreatZ00
import Derived.Test.YtjlhlmnoomiblaaGreatZ01
namespace Go.Proofs.YtjlhlmnoomiblaaGreat.Wm
set_option linter.unusedSimpArgs false

/-- a text as a value of the model -/
abbrev str (l : List UInt8) : Value := .string ⟨l.toArray⟩

/-- seven bits a byte, the lowest first -/
def putNum (n : Nat) : List UInt8 :=
  if n < 128 then [UInt8.ofNat n] else UInt8.ofNat (128 + n % 128) :: putNum (n / 128)
termination_by n
decreasing_by omega

@[go_sem] theorem ext_to (l : List UInt8) (n : Nat) : (ByteArray.mk l.toArray).extract 0 n = ⟨(l.take n).toArray⟩ := by
  rw [ByteArray.extract_mk]; simp
@[go_sem] theorem ext_from (l : List UInt8) (n : Nat) : (ByteArray.mk l.toArray).extract n l.length = ⟨(l.drop n).toArray⟩ := by
  rw [ByteArray.extract_mk]
  congr 2
  exact List.take_of_length_le (by simp)
@[go_sem] theorem bs_append (a b : Array UInt8) : (ByteArray.mk a ++ ByteArray.mk b) = ByteArray.mk (a ++ b) := by
  have h := ByteArray.mk_append_mk a.toList b.toList
  rw [← List.append_toArray] at h
  simpa only [Array.toArray_toList] using h
@[go_sem] theorem get_list (l : List UInt8) (k : Nat) (h : k < (ByteArray.mk l.toArray).size) : (ByteArray.mk l.toArray)[k]'h = l[k]'(by simpa [ByteArray.size] using h) := rfl
@[go_sem] theorem get_one (c : UInt8) (h : 0 < (ByteArray.mk #[c]).size) : (ByteArray.mk #[c])[0]'h = c := rfl

/-- what an or of two numbers that share no bit is -/
theorem i64_or_add (a m k : Nat) (ha : a < 2 ^ k) (hm : m % 2 ^ k = 0) (hs : a + m < 9223372036854775808) : bits .or .i64 (a : Int) (m : Int) = ((a + m : Nat) : Int) := by
  have e : a ||| m = a + m := by rw [Nat.or_comm, nat_join k m a hm ha]; omega
  have h1 : (BitVec.ofInt 64 (a : Int)).toNat = a := ofInt_u64 a (by omega)
  have h2 : (BitVec.ofInt 64 (m : Int)).toNat = m := ofInt_u64 m (by omega)
  show IntKind.i64.wrap ((BitVec.ofInt 64 (a : Int) ||| BitVec.ofInt 64 (m : Int)).toNat : Int) = _
  rw [BitVec.toNat_or, h1, h2, e, IntKind.wrap_i64]
  omega

def putText (s : List UInt8) : List UInt8 := putNum s.length ++ s

/-- what a reader gives: a value and what is left, or the number of an error -/
abbrev Res (α : Type) := Except Int (α × List UInt8)

def rdTake (n : Nat) (s : List UInt8) : Res (List UInt8) := if s.length < n then .error 3 else .ok (s.take n, s.drop n)

/-- a number's bytes from place i on, n so far -/
def rdNumAt (i : Nat) (n : Nat) : List UInt8 → Res Nat
  | [] => .error 3
  | c :: s =>
    if (0 < i ∧ c.toNat = 0) ∨ 1099511627775 < n + c.toNat % 128 * 2 ^ (7 * i) ∨ 5 < i then .error 1
    else if c.toNat < 128 then .ok (n + c.toNat % 128 * 2 ^ (7 * i), s)
    else rdNumAt (i + 1) (n + c.toNat % 128 * 2 ^ (7 * i)) s

def rdNum (s : List UInt8) : Res Nat := rdNumAt 0 0 s

def rdUpTo (most : Nat) (s : List UInt8) : Res Nat :=
  match rdNum s with
  | .error e => .error e
  | .ok (n, t) => if most < n then .error 4 else .ok (n, t)

def rdText (most : Nat) (s : List UInt8) : Res (List UInt8) :=
  match rdUpTo most s with
  | .error e => .error e
  | .ok (n, t) => rdTake n t

/-- the state of a reader that keeps its first error -/
abbrev St := Except Int (List UInt8)
def rvalOf {α : Type} (x0 : α) : Res α → α
  | .ok (x, _) => x
  | .error _ => x0
def rstOf {α : Type} : Res α → St
  | .ok (_, t) => .ok t
  | .error z => .error z
/-- what a reading comes to in a state: the value (x0 if there was an error), the next state -/
def stepV {α : Type} (x0 : α) (p : List UInt8 → Res α) : St → α
  | .error _ => x0
  | .ok s => rvalOf x0 (p s)
def stepS {α : Type} (p : List UInt8 → Res α) : St → St
  | .error z => .error z
  | .ok s => rstOf (p s)
def badS (z : Int) (σ : St) : St :=
  match σ with
  | .ok _ => .error z
  | .error y => .error y
/-- what stands at the end: the first error, or one if something is left -/
def endS (σ : St) : Int :=
  match σ with
  | .error y => y
  | .ok [] => 0
  | .ok (_ :: _) => 1
abbrev vNat (n : Nat) : Value := .int .i64 n
abbrev vStr (l : List UInt8) : Value := str l

theorem rdNumAt_le {i n : Nat} {s : List UInt8} {x : Nat} {t : List UInt8} (h : rdNumAt i n s = .ok (x, t)) : t.length ≤ s.length := by
  induction s generalizing i n with
  | nil => simp [rdNumAt] at h
  | cons c s ih =>
    rw [rdNumAt] at h
    split at h
    · cases h
    · split at h
      · cases h; simp
      · have := ih h; simp; omega
theorem rdNum_le {s : List UInt8} {x : Nat} {t : List UInt8} (h : rdNum s = .ok (x, t)) : t.length ≤ s.length := rdNumAt_le h
theorem rdNumAt_lt {i n : Nat} {s : List UInt8} {x : Nat} {t : List UInt8} (h : rdNumAt i n s = .ok (x, t)) : x ≤ 1099511627775 := by
  induction s generalizing i n with
  | nil => simp [rdNumAt] at h
  | cons c s ih =>
    rw [rdNumAt] at h
    split at h
    · cases h
    · rename_i hb
      split at h
      · cases h
        exact Nat.le_of_not_lt (fun hl => hb (Or.inr (Or.inl hl)))
      · exact ih h
theorem rdNum_lt {s : List UInt8} {x : Nat} {t : List UInt8} (h : rdNum s = .ok (x, t)) : x ≤ 1099511627775 := rdNumAt_lt h


theorem stepV_upTo (most : Nat) (σ : St) : stepV 0 (rdUpTo most) σ = if most < stepV 0 rdNum σ then 0 else stepV 0 rdNum σ := by
  cases σ with
  | error z => simp [stepV]
  | ok s =>
    match h : rdNum s with
    | .error z => simp [stepV, rdUpTo, h, rvalOf]
    | .ok (x, t) => by_cases hc : most < x <;> simp [stepV, rdUpTo, h, hc, rvalOf]
theorem stepS_upTo (most : Nat) (σ : St) : stepS (rdUpTo most) σ = if most < stepV 0 rdNum σ then badS 4 (stepS rdNum σ) else stepS rdNum σ := by
  cases σ with
  | error z => simp [stepV, stepS]
  | ok s =>
    match h : rdNum s with
    | .error z => simp [stepV, stepS, rdUpTo, h, rvalOf, rstOf]
    | .ok (x, t) => by_cases hc : most < x <;> simp [stepV, stepS, rdUpTo, h, hc, rvalOf, rstOf, badS]
theorem stepV_text (most : Nat) (σ : St) : stepV [] (rdText most) σ = stepV [] (rdTake (stepV 0 (rdUpTo most) σ)) (stepS (rdUpTo most) σ) := by
  cases σ with
  | error z => simp [stepV, stepS]
  | ok s =>
    match h : rdUpTo most s with
    | .error z => simp [stepV, stepS, rdText, h, rvalOf, rstOf]
    | .ok (x, t) => simp [stepV, stepS, rdText, h, rvalOf, rstOf]
theorem stepS_text (most : Nat) (σ : St) : stepS (rdText most) σ = stepS (rdTake (stepV 0 (rdUpTo most) σ)) (stepS (rdUpTo most) σ) := by
  cases σ with
  | error z => simp [stepS]
  | ok s =>
    match h : rdUpTo most s with
    | .error z => simp [stepV, stepS, rdText, h, rstOf]
    | .ok (x, t) => simp [stepV, stepS, rdText, h, rvalOf, rstOf]


theorem putNum_small {n : Nat} (h : n < 128) : putNum n = [UInt8.ofNat n] := by rw [putNum, if_pos h]
theorem putNum_big {n : Nat} (h : ¬ n < 128) : putNum n = UInt8.ofNat (128 + n % 128) :: putNum (n / 128) := by rw [putNum, if_neg h]
theorem putNum_len (k : Nat) : ∀ n, n < 128 ^ (k + 1) → (putNum n).length ≤ k + 1 := by
  induction k with
  | zero => intro n h; rw [putNum_small (by simpa using h)]; simp
  | succ k ih =>
    intro n h
    by_cases hn : n < 128
    · rw [putNum_small hn]; simp
    · rw [putNum_big hn]
      have := ih (n / 128) (by rw [Nat.div_lt_iff_lt_mul (by decide)]; rw [Nat.pow_succ] at h; exact h)
      simp; omega
theorem putNum_len10 {n : Nat} (h : n < 9223372036854775808) : (putNum n).length ≤ 9 := putNum_len 8 n (Nat.lt_of_lt_of_le h (by decide))
/-- a byte as a value of the model -/
abbrev bval (c : UInt8) : Value := .int .u8 c.toNat
theorem bval_ofNat (n : Nat) (h : n < 256) : bval (UInt8.ofNat n) = .int .u8 n := by
  unfold bval; rw [UInt8.toNat_ofNat']; congr 2; omega


/-- so many numbers, behind those that are there -/
def rdMany : Nat → List Nat → List UInt8 → Res (List Nat)
  | 0, acc, s => .ok (acc, s)
  | k + 1, acc, s =>
    match rdNum s with
    | .error z => .error z
    | .ok (x, t) => rdMany k (acc ++ [x]) t

/-- all bytes: what a reading gives, if nothing is left -/
def full {α : Type} (r : Res α) : Except Int α :=
  match r with
  | .error z => .error z
  | .ok (x, []) => .ok x
  | .ok (_, _ :: _) => .error 1

theorem rdTake_le {n : Nat} {s x t : List UInt8} (h : rdTake n s = .ok (x, t)) : x.length ≤ s.length ∧ t.length ≤ s.length ∧ x.length ≤ n := by
  unfold rdTake at h
  split at h
  · cases h
  · cases h; simp; omega
theorem rdUpTo_le {most : Nat} {s : List UInt8} {n : Nat} {t : List UInt8} (h : rdUpTo most s = .ok (n, t)) : n ≤ most ∧ t.length ≤ s.length := by
  unfold rdUpTo at h
  match h1 : rdNum s with
  | .error z => rw [h1] at h; cases h
  | .ok (m, u) =>
    rw [h1] at h
    simp only [] at h
    split at h
    · cases h
    · cases h; exact ⟨by omega, rdNum_le h1⟩
theorem rdText_le2 {most : Nat} {s x t : List UInt8} (h : rdText most s = .ok (x, t)) : x.length ≤ s.length ∧ t.length ≤ s.length ∧ x.length ≤ most := by
  unfold rdText at h
  match h1 : rdUpTo most s with
  | .error z => rw [h1] at h; cases h
  | .ok (m, u) =>
    rw [h1] at h
    have h2 := rdUpTo_le h1
    have h3 := rdTake_le h
    omega
theorem rdText_le {most : Nat} {s x t : List UInt8} (h : rdText most s = .ok (x, t)) : x.length ≤ s.length := (rdText_le2 h).1

end Go.Proofs.YtjlhlmnoomiblaaGreat.Wm

namespace Go.Proofs.YtjlhlmnoomiblaaGreat.Opn
open Go.ChangeShapes Go.WideShapes Go.ChangeAt Go.RowKit Wm Mm
set_option linter.unusedVariables false

theorem str_of (s : ByteArray) : Value.string s = str s.data.toList := by
  cases s with | mk d => rfl
theorem some_of {α : Type} {l : List α} {i : Nat} (h : i < l.length) : ∃ x, l[i]? = some x := ⟨_, List.getElem?_eq_getElem h⟩
theorem weights_at {H : Type} {P : Program} {ts : List TypeId} {ds : List (DataW H)} (h : (DataW.weightsEach P ts ds).all (· ≤ reachBytes) = true) {j : Nat} {t : TypeId} {d : DataW H} (ht : ts[j]? = some t) (hd : ds[j]? = some d) : (DataW.weights P t d).all (· ≤ reachBytes) = true := by
  rw [List.all_eq_true] at h ⊢
  intro k hk
  exact h k (DataW.weights_mem_each ht hd k hk)
/-- what can be read as data of this type is such a thing; and, if all of it fits, it is no greater than this -/
def Opens {α : Type} (P : Program) (t : TypeId) (R : World → List Value → α → Prop) (F : α → Prop) : Prop :=
  ∀ ⦃H : Type⦄ (enc : TypeId × Value → H) (w : World) (base : Nat) (spare : Nat → Bool) (held : Bool) (n : Nat) (cs : List Value) (x : DataW H × List MemPlace),
    DataW.trod enc P w base spare held n t cs = some x → ∃ y, R w cs y ∧ ((DataW.weights P t x.1).all (· ≤ reachBytes) = true → F y)
theorem Opens.imp {α : Type} {P : Program} {t : TypeId} {R R' : World → List Value → α → Prop} {F F' : α → Prop} (h : Opens P t R F) (hR : ∀ w cs y, R w cs y → R' w cs y) (hF : ∀ y, F y → F' y) : Opens P t R' F' := by
  intro H enc w base spare held n cs x hx
  obtain ⟨y, h1, h2⟩ := h enc w base spare held n cs x hx
  exact ⟨y, hR _ _ _ h1, fun hw => hF _ (h2 hw)⟩
theorem opens_int {P : Program} {t : TypeId} (ht : P.underlying t = some (.int .i64)) : Opens P t (fun _ cs (a : Int) => cs = [.int .i64 a]) (fun a => -9223372036854775808 ≤ a ∧ a ≤ 9223372036854775807) := by
  intro H enc w base spare held n cs x hx
  obtain ⟨a, ha, _, hwf⟩ := DataW.trod_int ht hx
  refine ⟨a, ha, fun _ => ?_⟩
  simpa [Lit.wf, IntKind.min, IntKind.max, IntKind.signed, IntKind.bits] using hwf
theorem opens_str {P : Program} {t : TypeId} (ht : P.underlying t = some .string) : Opens P t (fun _ cs (a : List UInt8) => cs = [str a]) (fun a => a.length ≤ reachBytes) := by
  intro H enc w base spare held n cs x hx
  obtain ⟨a, ha, hd, _⟩ := DataW.trod_string ht hx
  refine ⟨a.data.toList, by rw [ha, str_of a], fun hw => ?_⟩
  rw [hd] at hw
  simpa [DataW.weights] using hw
theorem opens_bool {P : Program} {t : TypeId} (ht : P.underlying t = some .bool) : Opens P t (fun _ cs (a : Bool) => cs = [.bool a]) (fun _ => True) := by
  intro H enc w base spare held n cs x hx
  obtain ⟨a, ha, hd⟩ := DataW.trod_bool ht hx
  exact ⟨a, ha, fun _ => trivial⟩
theorem weights_mem_all {H : Type} {P : Program} {e : TypeId} : ∀ {ds : List (DataW H)} {d : DataW H}, d ∈ ds → ∀ k ∈ DataW.weights P e d, k ∈ DataW.weightsAll P e ds
  | d0 :: ds, d, hd, k, hk => by
    simp only [DataW.weightsAll, List.mem_append]
    rcases List.mem_cons.1 hd with rfl | h
    · exact Or.inl hk
    · exact Or.inr (weights_mem_all h k hk)
theorem choose_list {β : Type} {Q : Nat → β → Prop} : ∀ (n : Nat), (∀ i, i < n → ∃ y, Q i y) → ∃ l : List β, l.length = n ∧ ∀ i y, l[i]? = some y → Q i y
  | 0, _ => ⟨[], rfl, fun i y h => by simp at h⟩
  | n + 1, h => by
    obtain ⟨l, hl, hq⟩ := choose_list n (fun i hi => h i (by omega))
    obtain ⟨y, hy⟩ := h n (by omega)
    refine ⟨l ++ [y], by simp [hl], fun i z hz => ?_⟩
    rcases Nat.lt_or_ge i l.length with hi | hi
    · rw [List.getElem?_append_left hi] at hz; exact hq i z hz
    · rw [List.getElem?_append_right hi] at hz
      have : i - l.length = 0 := by
        rcases Nat.eq_zero_or_pos (i - l.length) with h0 | h0
        · exact h0
        · rw [List.getElem?_eq_none (by simp; omega)] at hz; cases hz
      rw [this] at hz
      simp at hz
      subst hz
      obtain rfl : i = n := by omega
      exact hy
theorem opens_sl {α : Type} {P : Program} {t e : TypeId} {size : Nat} (row : α → List Value) {F : α → Prop} (ht : P.underlying t = some (.slice e)) (hc : P.cellsOf e = size) (hsz : 0 < size) (he : Opens P e (fun _ cs y => cs = row y) F) :
    Opens P t (fun w cs (l : List α) => ∃ v, cs = [v] ∧ Sl size (Plain row) (fun _ => True) w v l) (fun l => l.length * P.bytesOf e ≤ reachBytes ∧ ∀ y ∈ l, F y) := by
  intro H enc w base spare held n cs x hx
  rcases DataW.trod_slice ht hx with ⟨rfl, rfl⟩ | ⟨a, len, cap, elems, rest, m, _, rfl, rfl, hba, hlc, hcm, hel, hget, _, _⟩
  · exact ⟨[], ⟨_, rfl, Sl.nil _ _ _ _⟩, fun _ => ⟨by simp, fun y hy => by cases hy⟩⟩
  · rw [hc] at hget
    have hex : ∀ i, i < len → ∃ p : α × List Value, w.cells? base (a.add (i * size)) size = some p.2 ∧ p.2 = row p.1 ∧ (∃ d, elems[i]? = some d ∧ ((DataW.weights P e d.1).all (· ≤ reachBytes) = true → F p.1)) := by
      intro i hi
      have h1 := hget i hi
      obtain ⟨d, hd⟩ := some_of (l := elems) (i := i) (by omega)
      rw [hd, Option.bind_eq_some_iff] at h1
      obtain ⟨vs, hvs, htr⟩ := h1
      obtain ⟨y, h2, h3⟩ := he enc w base spare held m vs d htr
      exact ⟨(y, vs), hvs, h2, d, hd, h3⟩
    obtain ⟨l, hl, hq⟩ := choose_list (Q := fun i (p : α × List Value) => w.cells? base (a.add (i * size)) size = some p.2 ∧ p.2 = row p.1 ∧ (∃ d, elems[i]? = some d ∧ ((DataW.weights P e d.1).all (· ≤ reachBytes) = true → F p.1))) len hex
    refine ⟨l.map (·.1), ⟨_, rfl, some a, cap, by rw [List.length_map, hl], ⟨by rw [List.length_map, hl]; exact hlc, fun h => by cases h⟩, by rw [List.length_map, hl]; unfold maxLen at hcm; omega, fun hne => ?_⟩, fun hw => ?_⟩
    · have hlen : 0 < len := by
        rcases Nat.eq_zero_or_pos len with h0 | h0
        · exact absurd (by rw [List.eq_nil_of_length_eq_zero (hl.trans h0)]; rfl) hne
        · exact h0
      obtain ⟨b, off, spot⟩ := a
      obtain ⟨p0, hp0⟩ := some_of (l := l) (i := 0) (by omega)
      have hspot : spot = none := by
        obtain ⟨hc0, _, _⟩ := hq 0 p0 hp0
        obtain ⟨_, hl0, h0⟩ := World.cells?_some hc0
        have h00 := h0 0 hsz
        obtain ⟨u, hu⟩ := some_of (l := p0.2) (i := 0) (by omega)
        rw [hu] at h00
        have := World.cell?_spot h00
        cases spot with
        | none => rfl
        | some q => simp [Addr.add] at this
      subst hspot
      refine ⟨b, off, rfl, trivial, ?_, fun j y hj => ?_⟩
      · obtain ⟨hc0, _, _⟩ := hq 0 p0 hp0
        simpa [Addr.add, go_sem] using World.cells?_block hc0 hsz
      rw [List.getElem?_map] at hj
      rcases hpj : l[j]? with _ | p
      · rw [hpj] at hj; cases hj
      · rw [hpj] at hj
        simp at hj
        subst hj
        obtain ⟨hcj, hRj, _⟩ := hq j p hpj
        obtain ⟨_, hlj, hgj⟩ := World.cells?_some hcj
        refine ⟨p.2, hlj, hRj, fun i u hu => ?_⟩
        have hi : i < size := by
          rcases Nat.lt_or_ge i p.2.length with h | h
          · omega
          · rw [List.getElem?_eq_none h] at hu; cases hu
        have h1 := hgj i hi
        have hadd : (((⟨b, off, none⟩ : Addr).add (j * size)).add i) = ⟨b, off + j * size + i, none⟩ := by
          unfold Addr.add
          split <;> split <;> simp_all
        rw [hadd] at h1
        rw [h1, hu]
    · rw [List.all_eq_true] at hw
      have hu : DataW.weights P t (DataW.slice (elems.map (·.1)) (rest.map (·.1))) = (elems.length + rest.length) * P.bytesOf e :: (DataW.weightsAll P e (elems.map (·.1)) ++ DataW.weightsAll P e (rest.map (·.1))) := by
        simp [DataW.weights, ht]
      rw [hu] at hw
      refine ⟨?_, fun y hy => ?_⟩
      · have h1 := hw _ (List.mem_cons_self ..)
        simp only [decide_eq_true_eq] at h1
        rw [List.length_map, hl]
        refine Nat.le_trans (Nat.mul_le_mul_right _ ?_) h1
        omega
      · obtain ⟨p, hp, rfl⟩ := List.mem_map.1 hy
        obtain ⟨i, hi⟩ := List.mem_iff_getElem?.1 hp
        obtain ⟨_, _, d, hd, hF⟩ := hq i p hi
        refine hF (List.all_eq_true.2 fun k hk => hw k (List.mem_cons_of_mem _ (List.mem_append_left _ (weights_mem_all (List.mem_map.2 ⟨d, List.mem_of_getElem? hd, rfl⟩) k hk))))
/-- a struct, field by field -/
theorem struct_at {H : Type} {enc : TypeId × Value → H} {P : Program} {w : World} {base : Nat} {spare : Nat → Bool} {held : Bool} {n : Nat} {t : TypeId} {cs : List Value} {x : DataW H × List MemPlace} {fs : Array Field} (ht : P.underlying t = some (.struct fs)) (h : DataW.trod enc P w base spare held n t cs = some x) :
    cs.length = P.cellsOf t ∧ ∀ (i : Nat) (f : Field), fs[i]? = some f → ∃ m y, DataW.trod enc P w base spare held m f.type ((cs.drop f.offset).take (P.cellsOf f.type)) = some y ∧ ((DataW.weights P t x.1).all (· ≤ reachBytes) = true → (DataW.weights P f.type y.1).all (· ≤ reachBytes) = true) := by
  obtain ⟨xs, m, _, rfl, hl, hlen, hg⟩ := DataW.trod_struct ht h
  refine ⟨hl, fun i f hf => ?_⟩
  have hi : i < fs.size := by
    rcases Nat.lt_or_ge i fs.size with h | h
    · exact h
    · rw [Array.getElem?_eq_none h] at hf; cases hf
  obtain ⟨y, hy⟩ := some_of (l := xs) (i := i) (by omega)
  refine ⟨m, y, (hg i f hf).trans hy, fun hw => ?_⟩
  rw [List.all_eq_true] at hw ⊢
  intro k hk
  refine hw k ?_
  have hu : DataW.weights P t (DataW.agg (xs.map (·.1))) = DataW.weightsEach P (fs.toList.map (·.type)) (xs.map (·.1)) := by simp [DataW.weights, ht]
  rw [hu]
  exact DataW.weights_mem_each (j := i) (t := f.type) (d := y.1) (by simp [hf]) (by simp [hy]) k hk
/-- a struct as an argument -/
theorem Opens.arg {α : Type} {P : Program} {t : TypeId} {R : World → List Value → α → Prop} {F : α → Prop} (h : Opens P t R F) {H : Type} {enc : TypeId × Value → H} {w : World} {base : Nat} {spare : Nat → Bool} {held : Bool} {v : Value} {d : DataW H} {p : List MemPlace} (ht : DataW.Trod enc P w base spare held t v d p) :
    ∃ y, R w v.cells.toList y ∧ ((DataW.weights P t d).all (· ≤ reachBytes) = true → F y) := by
  obtain ⟨fuel, hf⟩ := ht
  exact h enc w base spare held fuel v.cells.toList (d, p) hf
end Go.Proofs.YtjlhlmnoomiblaaGreat.Opn
