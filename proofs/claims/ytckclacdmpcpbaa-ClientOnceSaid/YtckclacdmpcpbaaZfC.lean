/-
  ClientOnce: for every number of nodes and every script the law that a client asks each thing under one number till it has an answer answers true and leaves its arguments alone. No condition.
-/
import Derived.Test.YtckclacdmpcpbaaZf
import Derived.Test.YtckclacdmpcpbaaOg
namespace Go.Proofs.Ytckclacdmpcpbaa.Opn
open Go.ChangeShapes Go.WideShapes Go.ChangeAt Go.RowKit Wm Mm
set_option linter.unusedVariables false
theorem opens_rep {α : Type} {P : Program} {t e : TypeId} {size : Nat} (R : Rep α) {F : α → Prop} (ht : P.underlying t = some (.slice e)) (hc : P.cellsOf e = size) (hsz : 0 < size) (he : Opens P e (fun w cs y => R (fun _ => True) w cs y) F) :
    Opens P t (fun w cs (l : List α) => ∃ v, cs = [v] ∧ Sl size R (fun _ => True) w v l) (fun l => l.length * P.bytesOf e ≤ reachBytes ∧ ∀ y ∈ l, F y) := by
  intro H enc w base spare held n cs x hx
  rcases DataW.trod_slice ht hx with ⟨rfl, rfl⟩ | ⟨a, len, cap, elems, rest, m, _, rfl, rfl, hba, hlc, hcm, hel, hget, _, _⟩
  · exact ⟨[], ⟨_, rfl, Sl.nil _ _ _ _⟩, fun _ => ⟨by simp, fun y hy => by cases hy⟩⟩
  · rw [hc] at hget
    have hex : ∀ i, i < len → ∃ p : α × List Value, w.cells? base (a.add (i * size)) size = some p.2 ∧ R (fun _ => True) w p.2 p.1 ∧ (∃ d, elems[i]? = some d ∧ ((DataW.weights P e d.1).all (· ≤ reachBytes) = true → F p.1)) := by
      intro i hi
      have h1 := hget i hi
      obtain ⟨d, hd⟩ := some_of (l := elems) (i := i) (by omega)
      rw [hd, Option.bind_eq_some_iff] at h1
      obtain ⟨vs, hvs, htr⟩ := h1
      obtain ⟨y, h2, h3⟩ := he enc w base spare held m vs d htr
      exact ⟨(y, vs), hvs, h2, d, hd, h3⟩
    obtain ⟨l, hl, hq⟩ := choose_list (Q := fun i (p : α × List Value) => w.cells? base (a.add (i * size)) size = some p.2 ∧ R (fun _ => True) w p.2 p.1 ∧ (∃ d, elems[i]? = some d ∧ ((DataW.weights P e d.1).all (· ≤ reachBytes) = true → F p.1))) len hex
    refine ⟨l.map (·.1), ⟨_, rfl, some a, cap, by rw [List.length_map, hl], ⟨by rw [List.length_map, hl]; exact hlc, fun h => by cases h⟩, by rw [List.length_map, hl]; unfold maxLen at hcm; omega, fun hne => ?_⟩, fun hw => ?_⟩
    · have hlen : 0 < len := by
        rcases Nat.eq_zero_or_pos len with h0 | h0
        · exact absurd (by rw [List.eq_nil_of_length_eq_zero (hl.trans h0)]; rfl) hne
        · exact h0
      obtain ⟨b, off, spot⟩ := a
      obtain ⟨p0, hp0⟩ := some_of (l := l) (i := 0) (by omega)
      have hspot : spot = none := by
        obtain ⟨hc0, _, _⟩ := hq 0 p0 hp0
        obtain ⟨_, hl0, h0⟩ := World.cells?_some hc0
        have h00 := h0 0 hsz
        obtain ⟨u, hu⟩ := some_of (l := p0.2) (i := 0) (by omega)
        rw [hu] at h00
        have := World.cell?_spot h00
        cases spot with
        | none => rfl
        | some q => simp [Addr.add] at this
      subst hspot
      refine ⟨b, off, rfl, trivial, ?_, fun j y hj => ?_⟩
      · obtain ⟨hc0, _, _⟩ := hq 0 p0 hp0
        simpa [Addr.add, go_sem] using World.cells?_block hc0 hsz
      rw [List.getElem?_map] at hj
      rcases hpj : l[j]? with _ | p
      · rw [hpj] at hj; cases hj
      · rw [hpj] at hj
        simp at hj
        subst hj
        obtain ⟨hcj, hRj, _⟩ := hq j p hpj
        obtain ⟨_, hlj, hgj⟩ := World.cells?_some hcj
        refine ⟨p.2, hlj, hRj, fun i u hu => ?_⟩
        have hi : i < size := by
          rcases Nat.lt_or_ge i p.2.length with h | h
          · omega
          · rw [List.getElem?_eq_none h] at hu; cases hu
        have h1 := hgj i hi
        have hadd : (((⟨b, off, none⟩ : Addr).add (j * size)).add i) = ⟨b, off + j * size + i, none⟩ := by
          unfold Addr.add
          split <;> split <;> simp_all
        rw [hadd] at h1
        rw [h1, hu]
    · rw [List.all_eq_true] at hw
      have hu : DataW.weights P t (DataW.slice (elems.map (·.1)) (rest.map (·.1))) = (elems.length + rest.length) * P.bytesOf e :: (DataW.weightsAll P e (elems.map (·.1)) ++ DataW.weightsAll P e (rest.map (·.1))) := by
        simp [DataW.weights, ht]
      rw [hu] at hw
      refine ⟨?_, fun y hy => ?_⟩
      · have h1 := hw _ (List.mem_cons_self ..)
        simp only [decide_eq_true_eq] at h1
        rw [List.length_map, hl]
        refine Nat.le_trans (Nat.mul_le_mul_right _ ?_) h1
        omega
      · obtain ⟨p, hp, rfl⟩ := List.mem_map.1 hy
        obtain ⟨i, hi⟩ := List.mem_iff_getElem?.1 hp
        obtain ⟨_, _, d, hd, hF⟩ := hq i p hi
        refine hF (List.all_eq_true.2 fun k hk => hw k (List.mem_cons_of_mem _ (List.mem_append_left _ (weights_mem_all (List.mem_map.2 ⟨d, List.mem_of_getElem? hd, rfl⟩) k hk))))
end Go.Proofs.Ytckclacdmpcpbaa.Opn

namespace Go.Proofs.Ytckclacdmpcpbaa
open Go.ChangeShapes Go.WideShapes Go.ChangeAt Go.RowKit Wm Mm Clt Opn
set_option linter.unusedVariables false

theorem cells_intE : Try.prog.cellsOf 3 = 1 := by kernel_rfl
theorem cells_errE : Try.prog.cellsOf 24 = 1 := by kernel_rfl
theorem cells_strE : Try.prog.cellsOf 9 = 1 := by kernel_rfl
theorem cells_strsE : Try.prog.cellsOf 54 = 1 := by kernel_rfl
theorem cells_resE : Try.prog.cellsOf 82 = 4 := by kernel_rfl
theorem cells_ansE : Try.prog.cellsOf 84 = 6 := by kernel_rfl
theorem bytes_strE : Try.prog.bytesOf 9 = 16 := by kernel_rfl
theorem opens_keysE : Opens Try.prog 54 (fun w cs (l : List (List UInt8)) => ∃ v, cs = [v] ∧ Sl 1 (Plain rowT) (fun _ => True) w v l) (fun l => l.length ≤ 8796093022000) :=
  (opens_sl rowT Try.underlying54 cells_strE (by decide) (opens_str Try.underlying9)).imp (fun w cs y h => h) (fun y h => by
    have h1 := h.1
    rw [bytes_strE] at h1
    have hr : reachBytes = 140737488351232 := rfl
    omega)
structure ResQ where
  kind : Int
  val : List UInt8
  ver : Int
  keys : List (List UInt8)
set_option maxRecDepth 100000 in
theorem opens_resE : Opens Try.prog 82 (fun w cs (e : ResQ) => ∃ kv, cs = [.int .i64 e.kind, str e.val, .int .i64 e.ver, kv] ∧ Sl 1 (Plain rowT) (fun _ => True) w kv e.keys) (fun e => i64c e.kind ∧ i64c e.ver ∧ e.keys.length ≤ 8796093022000) := by
  intro H enc w base spare held n cs x hx
  obtain ⟨hl, hg⟩ := struct_at Try.underlying82 hx
  rw [cells_resE] at hl
  match cs, hl with
  | [c0, c1, c2, c3], _ =>
    obtain ⟨m0, y0, h0, w0⟩ := hg 0 _ rfl
    obtain ⟨m1, y1, h1, w1⟩ := hg 1 _ rfl
    obtain ⟨m2, y2, h2, w2⟩ := hg 2 _ rfl
    obtain ⟨m3, y3, h3, w3⟩ := hg 3 _ rfl
    have h0 : DataW.trod enc Try.prog w base spare held m0 3 (([c0, c1, c2, c3].drop 0).take (Try.prog.cellsOf 3)) = some y0 := h0
    have h1 : DataW.trod enc Try.prog w base spare held m1 9 (([c0, c1, c2, c3].drop 1).take (Try.prog.cellsOf 9)) = some y1 := h1
    have h2 : DataW.trod enc Try.prog w base spare held m2 3 (([c0, c1, c2, c3].drop 2).take (Try.prog.cellsOf 3)) = some y2 := h2
    have h3 : DataW.trod enc Try.prog w base spare held m3 54 (([c0, c1, c2, c3].drop 3).take (Try.prog.cellsOf 54)) = some y3 := h3
    rw [cells_intE] at h0
    rw [cells_strE] at h1
    rw [cells_intE] at h2
    rw [cells_strsE] at h3
    obtain ⟨a0, b0, f0⟩ := opens_int Try.underlying3 enc w base spare held m0 _ y0 h0
    obtain ⟨a1, b1, _⟩ := opens_str Try.underlying9 enc w base spare held m1 _ y1 h1
    obtain ⟨a2, b2, f2⟩ := opens_int Try.underlying3 enc w base spare held m2 _ y2 h2
    obtain ⟨a3, ⟨kv, b3, b4⟩, f3⟩ := opens_keysE enc w base spare held m3 _ y3 h3
    obtain rfl : c0 = .int .i64 a0 := by simpa using b0
    obtain rfl : c1 = str a1 := by simpa using b1
    obtain rfl : c2 = .int .i64 a2 := by simpa using b2
    obtain rfl : c3 = kv := by simpa using b3
    exact ⟨⟨a0, a1, a2, a3⟩, ⟨_, rfl, b4⟩, fun hw => ⟨f0 (w0 hw), f2 (w2 hw), f3 (w3 hw)⟩⟩
set_option maxRecDepth 100000 in
theorem opens_ansE : Opens Try.prog 84 (fun w cs (e : AnsP) => RAns (fun _ => True) w cs e) (fun e => i64c e.tok ∧ i64c e.kind ∧ i64c e.ver ∧ e.keys.length ≤ 8796093022000) := by
  intro H enc w base spare held n cs x hx
  obtain ⟨hl, hg⟩ := struct_at Try.underlying84 hx
  rw [cells_ansE] at hl
  match cs, hl with
  | [c0, c1, c2, c3, c4, c5], _ =>
    obtain ⟨m0, y0, h0, w0⟩ := hg 0 _ rfl
    obtain ⟨m1, y1, h1, w1⟩ := hg 1 _ rfl
    obtain ⟨m2, y2, h2, w2⟩ := hg 2 _ rfl
    have h0 : DataW.trod enc Try.prog w base spare held m0 3 (([c0, c1, c2, c3, c4, c5].drop 0).take (Try.prog.cellsOf 3)) = some y0 := h0
    have h1 : DataW.trod enc Try.prog w base spare held m1 24 (([c0, c1, c2, c3, c4, c5].drop 1).take (Try.prog.cellsOf 24)) = some y1 := h1
    have h2 : DataW.trod enc Try.prog w base spare held m2 82 (([c0, c1, c2, c3, c4, c5].drop 2).take (Try.prog.cellsOf 82)) = some y2 := h2
    rw [cells_intE] at h0
    rw [cells_errE] at h1
    rw [cells_resE] at h2
    obtain ⟨a0, b0, f0⟩ := opens_int Try.underlying3 enc w base spare held m0 _ y0 h0
    obtain ⟨a1, b1, _⟩ := opens_int Try.underlying24 enc w base spare held m1 _ y1 h1
    obtain ⟨a2, ⟨kv, b2, b4⟩, f2⟩ := opens_resE enc w base spare held m2 _ y2 h2
    obtain rfl : c0 = .int .i64 a0 := by simpa using b0
    obtain rfl : c1 = .int .i64 a1 := by simpa using b1
    have b2 : [c2, c3, c4, c5] = [.int .i64 a2.kind, str a2.val, .int .i64 a2.ver, kv] := b2
    simp only [List.cons.injEq, and_true] at b2
    obtain ⟨rfl, rfl, rfl, rfl⟩ := b2
    exact ⟨⟨a0, a1, a2.kind, a2.val, a2.ver, a2.keys⟩, ⟨_, rfl, b4⟩, fun hw => ⟨f0 (w0 hw), (f2 (w2 hw)).1, (f2 (w2 hw)).2.1, (f2 (w2 hw)).2.2⟩⟩
theorem opens_scriptE : Opens Try.prog 62 (fun w cs (l : List AnsP) => ∃ v, cs = [v] ∧ Sl 6 RAns (fun _ => True) w v l) (fun l => ∀ x ∈ l, i64c x.tok ∧ i64c x.kind ∧ i64c x.ver ∧ x.keys.length ≤ 8796093022000) :=
  (opens_rep RAns Try.underlying62 cells_ansE (by decide) opens_ansE).imp (fun w cs y h => h) (fun y h => h.2)

set_option maxRecDepth 100000 in
theorem clientOnce_lifted (os : Os) (started : os.Started) (H : Type) (enc : TypeId × Value → H) :
    ReturnsInHanded {} Try.checked os 5 .any (Rows.clientOnceSpec.pre6 enc Try.prog Try.f5 Rows.clientOnceRow.domain false) (Rows.clientOnceSpec.post enc Try.prog Try.f5 false true false false) := by
  refine returnsInHanded_of_change_sized (C := Try.checked) law_own started (by kernel_rfl) Try.func5
    (ChangeSpec.witness6 (enc := enc) (C := Try.checked) false ⟨#[], #[.int .i64 0, .slice none 0 0], []⟩ 8 (by kernel_rfl) (by kernel_rfl) (by kernel_rfl) (by kernel_rfl)) ?_
  intro W base args ds gs before hval0 hW _ hsz0 _
  have hsz : (DataW.weightsEach Try.prog (Try.f5.params.toList ++ Rows.clientOnceSpec.plain.varTypes Try.prog) (ds ++ gs)).all (· ≤ reachBytes) = true := hsz0
  have hval : ∀ (j : Nat) t v, Try.f5.params[j]? = some t → args[j]? = some v → Value.okWide Try.prog W .any base t v := hval0
  have hW' : DataW.Whole enc Try.prog Try.f5.params.toList Rows.clientOnceSpec.vars false W args.toList ds gs before := hW
  obtain ⟨p, q, hA0, hV, rfl, hfz, hnd⟩ := hW
  have hA : DataW.TrodAll enc Try.prog W 0 (fun _ => true) true Try.f5.params.toList args.toList ds p := hA0
  rw [Try.params5] at hA hval hsz
  obtain ⟨v0, vs0, d0, ds0, p0, q0, hargs, rfl, rfl, h0, r0⟩ := trodAll_cons hA
  obtain ⟨v1, vs1, d1, ds1, p1, q1, rfl, rfl, rfl, h1, r1⟩ := trodAll_cons r0
  obtain ⟨rfl, rfl, rfl⟩ := trodAll_nil r1
  obtain rfl : args = #[v0, v1] := by cases args; simp_all
  obtain ⟨rfl, rfl⟩ := trodVars_none hV
  clear hA0 hval0 hsz0
  obtain ⟨n0, rfl⟩ := okWide_int Try.underlying3 (hval 0 3 v0 rfl rfl)
  obtain ⟨l, ⟨lv, hcs1, hl⟩, hfl⟩ := opens_scriptE.arg h1
  obtain ⟨a1, n1, k1, rfl⟩ := okWide_slice Try.underlying62 (hval 1 62 v1 rfl rfl)
  obtain rfl : Value.slice a1 n1 k1 = lv := by simpa [Value.cells] using hcs1
  have hf1 := hfl (weights_at hsz (j := 1) (t := 62) rfl rfl)
  obtain ⟨n0', hc0, hf0⟩ := (opens_int Try.underlying3).arg h0
  obtain rfl : n0 = n0' := by simpa [Value.cells] using hc0
  have hr0 : i64c n0 := hf0 (weights_at hsz (j := 0) (t := 3) rfl rfl)
  refine (law_clientOnce n0 (.slice a1 n1 k1) l _ W hl hr0 hf1).mono fun e W' ⟨he, hb⟩ => ?_
  exact ⟨_, he, law_post (by kernel_rfl) (by kernel_rfl) rfl rfl rfl rfl hW' hb⟩

theorem clientOnce_holds : Rows.ClientOnceSaid :=
  OpenClaim.holds_of_wide 5 Try.f5 rfl rfl rfl rfl rfl rfl rfl ⟨rfl, rfl, rfl, rfl, rfl⟩ rfl rfl rfl rfl rfl (by kernel_rfl) Try.func5 (by kernel_rfl)
    (of_decide_eq_true (by kernel_rfl)) (by unfold Func.isWrapper; first | (rw [if_pos (by decide +kernel)]; kernel_rfl) | (rw [if_neg (by decide +kernel)]; exact ⟨rfl, rfl⟩))
    (fun os started H enc _ => clientOnce_lifted os started H enc)

end Go.Proofs.Ytckclacdmpcpbaa
