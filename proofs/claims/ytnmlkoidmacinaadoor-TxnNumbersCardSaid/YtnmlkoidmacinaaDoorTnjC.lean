/-
  TxnNumbers: for every list of pairs and every key the law, on what a key's number is, answers true and leaves its arguments alone; the library's variables that its row lists hold what the program's text lays in them (the card ties them). No other condition.
-/
import Derived.Test.YtnmlkoidmacinaaDoorOkv
import Derived.Test.YtnmlkoidmacinaaDoorTnj
import Derived.Test.YtnmlkoidmacinaaDoorCards
import Derived.Test.YtnmlkoidmacinaaDoorTie
import Derived.Deep.DeepHandedRow
import Derived.Deep.DeepWitnessRowRef
import Derived.Lib.LaidTab
import Derived.Stop.LaidErr
import Derived.Lay
import Derived.MakeChecks
namespace Go.Proofs.YtnmlkoidmacinaaDoor
open Go.ChangeShapes Go.WideShapes Go.ChangeAt Go.RowKit Wm Mm Kv Opn
set_option linter.unusedVariables false

theorem gPow : Tryd.prog.globalNamed "internal/strconv.uint64pow10" = some 3 := by kernel_rfl
theorem gES : Tryd.prog.globalNamed "strconv.ErrSyntax" = some 1 := by kernel_rfl
theorem gER : Tryd.prog.globalNamed "strconv.ErrRange" = some 2 := by kernel_rfl
theorem gESt : (Tryd.prog.globals[1]?).map (·.type) = some 101 := by kernel_rfl
theorem gERt : (Tryd.prog.globals[2]?).map (·.type) = some 101 := by kernel_rfl
theorem gPowT : (Tryd.prog.globals[3]?).map (·.type) = some 154 := by kernel_rfl
theorem cPow : Tryd.prog.cellsOf 154 = 20 := by kernel_rfl
theorem cU64 : Tryd.prog.cellsOf 114 = 1 := by kernel_rfl
theorem cErrS : Tryd.prog.cellsOf 168 = 1 := by kernel_rfl
theorem cStr : Tryd.prog.cellsOf 9 = 1 := by kernel_rfl
theorem starE : "*" ++ "errors.errorString" = "*errors.errorString" := by decide
theorem rowErr (u : TypeId) (h : Tryd.prog.typeName? 3 u = some "*errors.errorString") : u = 166 :=
  typeName_ptr_named (nm := "errors.errorString") (by rw [starE]; kernel_rfl) (by kernel_rfl) (by decide) u (by rw [starE]; exact h)
/-- what the row's list gives -/
theorem vars_ok {W : World} (h : laidMet Tryd.prog Rows.txnNumbersRow.laid W) (hs : W.ShapedOpen Tryd.prog) : VarsOk W := by
  obtain ⟨m, hm⟩ := Tryd.laysM146.s1_3 W hs
  have ht : Lib.TabIs Tryd.prog W "internal/strconv.uint64pow10" .u64 Lib.pow10Tab := Lib.tabIs_of_head gPow gPowT Tryd.underlying154 Tryd.underlying114 cU64 cPow h.tail.tail
  obtain ⟨a0, s0, hr, -, -, -⟩ := laid_sentinel h.tail.tail.tail.tail gER gERt Tryd.underlying101 rowErr Tryd.underlying166 Tryd.underlying168 rfl rfl Tryd.underlying9 cErrS cStr
  obtain ⟨a1, s1, he, -, -, -⟩ := laid_sentinel h.tail.tail.tail.tail.tail gES gESt Tryd.underlying101 rowErr Tryd.underlying166 Tryd.underlying168 rfl rfl Tryd.underlying9 cErrS cStr
  exact ⟨⟨m, hm⟩, ⟨_, _, by have h0 := World.var?_cell gES he 0; simpa using h0⟩, ⟨_, _, by have h0 := World.var?_cell gER hr 0; simpa using h0⟩, ht⟩
theorem laid_met (os : Os) : laidMet Tryd.prog Rows.txnNumbersRow.laid ((World.laidAll Tryd.prog os Rows.txnNumbersRow.laid).forCall (fun _ _ => 0) ⟨#[], #[.slice none 0 0, .string ⟨#[]⟩], []⟩).memory := laidMet_laidAll _ (by kernel_rfl) (by kernel_rfl)
theorem reads (os : Os) {H : Type} (enc : TypeId × Value → H) : ∃ places, DataW.whole enc Tryd.prog ((World.laidAll Tryd.prog os Rows.txnNumbersRow.laid).forCall (fun _ _ => 0) ⟨#[], #[.slice none 0 0, .string ⟨#[]⟩], []⟩).memory Tryd.f3.params.toList Rows.txnNumbersSpec.vars false #[.slice none 0 0, .string ⟨#[]⟩].toList 8 = some ([.nil, .lit (.string [])], [], places) :=
  ⟨[], by kernel_rfl⟩
set_option maxRecDepth 100000 in
theorem txnNumbers_lifted (os : Os) (started : os.Started) (H : Type) (enc : TypeId × Value → H) (F : Stop.Interp) :
    ReturnsInHanded {} Tryd.checked os 3 .any ((OpenSpec.ofChange Rows.txnNumbersSpec).preRow enc Tryd.prog Tryd.f3 Rows.txnNumbersRow.domain false Rows.txnNumbersRow.laid) (((OpenSpec.ofChange Rows.txnNumbersSpec).at F).post enc Tryd.prog Tryd.f3 false true false false) := by
  obtain ⟨places, hx⟩ := reads os enc
  refine returnsInHanded_of_row (C := Tryd.checked) (s := OpenSpec.ofChange Rows.txnNumbersSpec) law_own started (by kernel_rfl) Tryd.func3
    (witness_row_atRef (enc := enc) (C := Tryd.checked) false (World.laidAll Tryd.prog os Rows.txnNumbersRow.laid) #[.slice none 0 0, .string ⟨#[]⟩] (World.laidAll_os _ _ _) (by kernel_rfl) (by kernel_rfl) (by kernel_rfl)
      (OpenSpec.preRow_of_cond 8 hx (by kernel_rfl) (fun k hk => by cases hk) (by kernel_rfl) (by rw [MakeChecks.laidMetH_plain _ _ _ (by kernel_rfl)]; exact laid_met os))) ?_
  intro W base args ds gs before hval0 hW _ _ hsz0 hL0 hsh _
  have hsz : (DataW.weightsEach Tryd.prog (Tryd.f3.params.toList ++ Rows.txnNumbersSpec.plain.varTypes Tryd.prog) (ds ++ gs)).all (· ≤ reachBytes) = true := hsz0
  have hval : ∀ (j : Nat) t v, Tryd.f3.params[j]? = some t → args[j]? = some v → Value.okWide Tryd.prog W .any base t v := hval0
  have hW' : DataW.Whole enc Tryd.prog Tryd.f3.params.toList Rows.txnNumbersSpec.vars false W args.toList ds gs before := hW
  have hL : laidMet Tryd.prog Rows.txnNumbersRow.laid W := by rw [← MakeChecks.laidMetH_plain _ _ _ (by kernel_rfl)]; exact hL0
  have hVO := vars_ok hL hsh
  obtain ⟨p, q, hA0, hV, rfl, hfz, hnd⟩ := hW
  have hA : DataW.TrodAll enc Tryd.prog W 0 (fun _ => true) true Tryd.f3.params.toList args.toList ds p := hA0
  rw [Tryd.params3] at hA hval hsz
  obtain ⟨v0, vs0, d0, ds0, p0, q0, hargs, rfl, rfl, h0, r0⟩ := trodAll_cons hA
  obtain ⟨v1, vs1, d1, ds1, p1, q1, rfl, rfl, rfl, h1, r1⟩ := trodAll_cons r0
  obtain ⟨rfl, rfl, rfl⟩ := trodAll_nil r1
  obtain rfl : args = #[v0, v1] := by cases args; simp_all
  obtain ⟨rfl, rfl⟩ := trodVars_none hV
  clear hA0 hval0 hsz0
  obtain ⟨l, ⟨lv, hcs0, hl⟩, hfl⟩ := opens_pairs.arg h0
  obtain ⟨a0, n0, k0, rfl⟩ := okWide_slice Tryd.underlying22 (hval 0 22 v0 rfl rfl)
  obtain rfl : Value.slice a0 n0 k0 = lv := by simpa [Value.cells] using hcs0
  obtain ⟨s, rfl, rfl, rfl, hs⟩ := ChangeMaps.open_string Tryd.underlying9 (hval 1 9 v1 rfl rfl) h1
  have hf0 : l.length ≤ 3518437208780 := hfl (weights_at hsz (j := 0) (t := 22) rfl rfl)
  have hlim : s.data.toList.length ≤ 1099511627776000 := by
    have h1 := sized_string hsz (j := 1) (t := 9) rfl rfl
    have h2 := reachBytes_lt
    have e3 : (2 : Nat) ^ 47 = 140737488355328 := by decide
    omega
  obtain ⟨⟨kl⟩⟩ := s
  refine (law_numbers (.slice a0 n0 k0) l _ kl W hl hf0 hlim hVO).mono fun e W' ⟨he, hb⟩ => ?_
  exact ⟨_, he, law_post (by kernel_rfl) (by kernel_rfl) rfl rfl rfl rfl hW' hb⟩
theorem txnNumbers_said : Rows.TxnNumbersSaid :=
  OpenClaim.holds_of_cond 3 Tryd.f3 rfl rfl rfl rfl rfl rfl rfl ⟨rfl, rfl, rfl, rfl, rfl⟩ rfl rfl rfl rfl rfl (by kernel_rfl) Tryd.func3 (by kernel_rfl)
    (of_decide_eq_true (by kernel_rfl)) (by unfold Func.isWrapper; first | (rw [if_pos (by decide +kernel)]; kernel_rfl) | (rw [if_neg (by decide +kernel)]; exact ⟨rfl, rfl⟩))
    (fun os started H enc _ F => by rw [OpenClaim.pre_eq_preRow]; exact txnNumbers_lifted os started H enc F)
/-- no parameter wants a stand-in; the program's own looks are off -/
theorem plain_args (f : FuncId) (fn : Func) (hf : Tryd.pinned.checked.prog.funcNamed "quorate/quoratelaw.TxnNumbers" = some f) (hfn : Tryd.pinned.checked.prog.funcs[f]? = some fn) :
    true = Tryd.pinned.checked.prog.looks [] ∧ ∀ (j : Nat) t, fn.params[j]? = some t → Tryd.pinned.checked.prog.wantsStandIn t = false := by
  obtain rfl : f = 3 := Option.some.inj ((show Tryd.prog.funcNamed "quorate/quoratelaw.TxnNumbers" = some 3 by kernel_rfl).symm.trans hf) |>.symm
  obtain rfl : fn = Tryd.f3 := (Option.some.inj (Tryd.func3.symm.trans hfn)).symm
  refine ⟨by kernel_rfl, fun j t ht => ?_⟩
  rw [Tryd.params3] at ht
  have h0 : Tryd.prog.wantsStandIn 22 = false := by kernel_rfl
  have h1 : Tryd.prog.wantsStandIn 9 = false := by kernel_rfl
  rcases j with _ | _ | j
  · obtain rfl : 22 = t := by simpa using ht
    exact h0
  · obtain rfl : 9 = t := by simpa using ht
    exact h1
  · simp at ht
theorem txnNumbers_holds : Rows.TxnNumbersCardSaid :=
  Claim7.holds_tied_plain_at .later [] _ _ _ _ txnNumbers_said (fun _ h => by cases h) (by kernel_rfl) (fun _ h => by cases h) txnNumbers_row_tie rfl ⟨rfl, rfl⟩ (by kernel_rfl) rfl plain_args (by kernel_rfl)
end Go.Proofs.YtnmlkoidmacinaaDoor
