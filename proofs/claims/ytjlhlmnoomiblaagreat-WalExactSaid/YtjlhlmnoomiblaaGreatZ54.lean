/-
  WalExact: for everything to be kept, all files and every first configuration the law, that what is kept is written as the document says and that files say what the document says, answers true and leaves its arguments alone. No condition.
-/
import Derived.Test.YtjlhlmnoomiblaaGreatZ04
import Derived.Test.YtjlhlmnoomiblaaGreatZ00
import Derived.Test.YtjlhlmnoomiblaaGreatZ53
import Derived.Test.YtjlhlmnoomiblaaGreatRows
namespace Go.Proofs.YtjlhlmnoomiblaaGreat
open Go.ChangeShapes Go.WideShapes Go.ChangeAt Go.RowKit Wm Mm Lg Fl Opn
open Go.ChangeMaps (open_string)
set_option linter.unusedVariables false

theorem cells_intB : Tryz.prog.cellsOf 3 = 1 := by kernel_rfl
theorem cells_strB : Tryz.prog.cellsOf 9 = 1 := by kernel_rfl
theorem cells_boolB : Tryz.prog.cellsOf 4 = 1 := by kernel_rfl
theorem cells_intsB : Tryz.prog.cellsOf 25 = 1 := by kernel_rfl
theorem cells_confB : Tryz.prog.cellsOf 27 = 3 := by kernel_rfl
theorem cells_snapB : Tryz.prog.cellsOf 29 = 6 := by kernel_rfl
theorem cells_hardB : Tryz.prog.cellsOf 23 = 3 := by kernel_rfl
theorem cells_readyB : Tryz.prog.cellsOf 33 = 15 := by kernel_rfl
theorem cells_msgsB : Tryz.prog.cellsOf 30 = 1 := by kernel_rfl
theorem cells_readsB : Tryz.prog.cellsOf 31 = 1 := by kernel_rfl
theorem cells_entsB : Tryz.prog.cellsOf 24 = 1 := by kernel_rfl
theorem cells_fileB : Tryz.prog.cellsOf 60 = 2 := by kernel_rfl
theorem bytes_intB : Tryz.prog.bytesOf 3 = 8 := by kernel_rfl
theorem bytes_fileB : Tryz.prog.bytesOf 60 = 32 := by kernel_rfl
theorem plain_intsB {w : World} {v : Value} {l : List Int} (h : Sl 1 (Plain fun i : Int => [.int .i64 i]) (fun _ => True) w v l) (hn : l.length ≤ maxLen) : Ints w v l := by
  obtain ⟨ao, cap, rfl, hcap, hmax, hx⟩ := h
  refine ⟨ao, cap, rfl, fun hne => ?_, hn⟩
  obtain ⟨b, off, rfl, _, _, hj⟩ := hx hne
  refine ⟨b, off, rfl, fun j x hjx => ?_⟩
  obtain ⟨us, _, hus, hcs⟩ := hj j x hjx
  have hus : us = [.int .i64 x] := hus
  subst hus
  have := hcs 0 _ rfl
  rw [Nat.mul_one, Nat.add_zero] at this
  exact this
theorem opens_any {P : Program} {t e : TypeId} (ht : P.underlying t = some (.slice e)) : Opens P t (fun _ cs (q : Option Addr × Nat × Nat) => cs = [.slice q.1 q.2.1 q.2.2]) (fun _ => True) := by
  intro H enc w base spare held n cs x hx
  rcases DataW.trod_slice ht hx with ⟨rfl, rfl⟩ | ⟨a, len, cap, elems, rest, m, _, rfl, rfl, _⟩
  · exact ⟨(none, 0, 0), rfl, fun _ => trivial⟩
  · exact ⟨(some a, len, cap), rfl, fun _ => trivial⟩
theorem opens_intsB : Opens Tryz.prog 25 (fun w cs (l : List Int) => ∃ v, cs = [v] ∧ Ints w v l) (fun l => l.length ≤ 17592186044000) := by
  have h := opens_sl (fun i : Int => [Value.int .i64 i]) Tryz.underlying25 cells_intB (by decide) (opens_int (P := Tryz.prog) Tryz.underlying3)
  intro H enc w base spare held n cs x hx
  obtain ⟨y, ⟨v, h1, h2⟩, h3⟩ := h enc w base spare held n cs x hx
  refine ⟨y, ⟨v, h1, plain_intsB h2 ?_⟩, fun hw => ?_⟩
  · obtain ⟨_, _, _, _, hm, _⟩ := h2
    exact hm
  · have h4 := (h3 hw).1
    rw [bytes_intB] at h4
    have hr : reachBytes = 140737488351232 := rfl
    omega
def fitB (c : Conf) : Prop := c.v.length ≤ 17592186044000 ∧ c.n.length ≤ 17592186044000 ∧ c.l.length ≤ 17592186044000
set_option maxRecDepth 100000 in
theorem opens_confB : Opens Tryz.prog 27 (fun w cs (c : Conf) => ∃ a b d, cs = [a, b, d] ∧ Config3 w a b d c) fitB := by
  intro H enc w base spare held n cs x hx
  obtain ⟨hl, hg⟩ := struct_at Tryz.underlying27 hx
  rw [cells_confB] at hl
  match cs, hl with
  | [c0, c1, c2], _ =>
    obtain ⟨m0, y0, h0, w0⟩ := hg 0 _ rfl
    obtain ⟨m1, y1, h1, w1⟩ := hg 1 _ rfl
    obtain ⟨m2, y2, h2, w2⟩ := hg 2 _ rfl
    have h0 : DataW.trod enc Tryz.prog w base spare held m0 25 (([c0, c1, c2].drop 0).take (Tryz.prog.cellsOf 25)) = some y0 := h0
    have h1 : DataW.trod enc Tryz.prog w base spare held m1 25 (([c0, c1, c2].drop 1).take (Tryz.prog.cellsOf 25)) = some y1 := h1
    have h2 : DataW.trod enc Tryz.prog w base spare held m2 25 (([c0, c1, c2].drop 2).take (Tryz.prog.cellsOf 25)) = some y2 := h2
    rw [cells_intsB] at h0 h1 h2
    obtain ⟨a0, ⟨v0, e0, i0⟩, f0⟩ := opens_intsB enc w base spare held m0 _ y0 h0
    obtain rfl : c0 = v0 := by simpa using e0
    obtain ⟨a1, ⟨v1, e1, i1⟩, f1⟩ := opens_intsB enc w base spare held m1 _ y1 h1
    obtain rfl : c1 = v1 := by simpa using e1
    obtain ⟨a2, ⟨v2, e2, i2⟩, f2⟩ := opens_intsB enc w base spare held m2 _ y2 h2
    obtain rfl : c2 = v2 := by simpa using e2
    exact ⟨⟨a0, a1, a2⟩, ⟨c0, c1, c2, rfl, i0, i1, i2⟩, fun hw => ⟨f0 (w0 hw), f1 (w1 hw), f2 (w2 hw)⟩⟩
set_option maxRecDepth 100000 in
theorem opens_snapB : Opens Tryz.prog 29 (fun w cs (q : Int × Int × Conf × List UInt8) => ∃ x y z, cs = [.int .i64 q.1, .int .i64 q.2.1, x, y, z, str q.2.2.2] ∧ Config3 w x y z q.2.2.1) (fun q => fitB q.2.2.1) := by
  intro H enc w base spare held n cs x hx
  obtain ⟨hl, hg⟩ := struct_at Tryz.underlying29 hx
  rw [cells_snapB] at hl
  match cs, hl with
  | [c0, c1, c2, c3, c4, c5], _ =>
    obtain ⟨m0, y0, h0, w0⟩ := hg 0 _ rfl
    obtain ⟨m1, y1, h1, w1⟩ := hg 1 _ rfl
    obtain ⟨m2, y2, h2, w2⟩ := hg 2 _ rfl
    obtain ⟨m3, y3, h3, w3⟩ := hg 3 _ rfl
    have h0 : DataW.trod enc Tryz.prog w base spare held m0 3 (([c0, c1, c2, c3, c4, c5].drop 0).take (Tryz.prog.cellsOf 3)) = some y0 := h0
    have h1 : DataW.trod enc Tryz.prog w base spare held m1 3 (([c0, c1, c2, c3, c4, c5].drop 1).take (Tryz.prog.cellsOf 3)) = some y1 := h1
    have h2 : DataW.trod enc Tryz.prog w base spare held m2 27 (([c0, c1, c2, c3, c4, c5].drop 2).take (Tryz.prog.cellsOf 27)) = some y2 := h2
    have h3 : DataW.trod enc Tryz.prog w base spare held m3 9 (([c0, c1, c2, c3, c4, c5].drop 5).take (Tryz.prog.cellsOf 9)) = some y3 := h3
    rw [cells_intB] at h0
    rw [cells_intB] at h1
    rw [cells_confB] at h2
    rw [cells_strB] at h3
    obtain ⟨a0, b0, g0⟩ := opens_int Tryz.underlying3 enc w base spare held m0 _ y0 h0
    obtain rfl : c0 = .int .i64 a0 := by simpa using b0
    obtain ⟨a1, b1, g1⟩ := opens_int Tryz.underlying3 enc w base spare held m1 _ y1 h1
    obtain rfl : c1 = .int .i64 a1 := by simpa using b1
    obtain ⟨g2, ⟨va, vb, vd, hv2, hc2⟩, hf2⟩ := opens_confB enc w base spare held m2 _ y2 h2
    have hv2 : [c2, c3, c4] = [va, vb, vd] := hv2
    simp only [List.cons.injEq, and_true] at hv2
    obtain ⟨rfl, rfl, rfl⟩ := hv2
    obtain ⟨a3, b3, g3⟩ := opens_str Tryz.underlying9 enc w base spare held m3 _ y3 h3
    obtain rfl : c5 = str a3 := by simpa using b3
    exact ⟨⟨a0, a1, g2, a3⟩, ⟨_, _, _, rfl, hc2⟩, fun hw => hf2 (w2 hw)⟩
set_option maxRecDepth 100000 in
theorem opens_hard : Opens Tryz.prog 23 (fun _ cs (q : Int × Int × Int) => cs = [.int .i64 q.1, .int .i64 q.2.1, .int .i64 q.2.2]) (fun _ => True) := by
  intro H enc w base spare held n cs x hx
  obtain ⟨hl, hg⟩ := struct_at Tryz.underlying23 hx
  rw [cells_hardB] at hl
  match cs, hl with
  | [c0, c1, c2], _ =>
    obtain ⟨m0, y0, h0, w0⟩ := hg 0 _ rfl
    obtain ⟨m1, y1, h1, w1⟩ := hg 1 _ rfl
    obtain ⟨m2, y2, h2, w2⟩ := hg 2 _ rfl
    have h0 : DataW.trod enc Tryz.prog w base spare held m0 3 (([c0, c1, c2].drop 0).take (Tryz.prog.cellsOf 3)) = some y0 := h0
    have h1 : DataW.trod enc Tryz.prog w base spare held m1 3 (([c0, c1, c2].drop 1).take (Tryz.prog.cellsOf 3)) = some y1 := h1
    have h2 : DataW.trod enc Tryz.prog w base spare held m2 3 (([c0, c1, c2].drop 2).take (Tryz.prog.cellsOf 3)) = some y2 := h2
    rw [cells_intB] at h0
    rw [cells_intB] at h1
    rw [cells_intB] at h2
    obtain ⟨a0, b0, g0⟩ := opens_int Tryz.underlying3 enc w base spare held m0 _ y0 h0
    obtain rfl : c0 = .int .i64 a0 := by simpa using b0
    obtain ⟨a1, b1, g1⟩ := opens_int Tryz.underlying3 enc w base spare held m1 _ y1 h1
    obtain rfl : c1 = .int .i64 a1 := by simpa using b1
    obtain ⟨a2, b2, g2⟩ := opens_int Tryz.underlying3 enc w base spare held m2 _ y2 h2
    obtain rfl : c2 = .int .i64 a2 := by simpa using b2
    exact ⟨⟨a0, a1, a2⟩, rfl, fun _ => trivial⟩
set_option maxRecDepth 100000 in
theorem opens_file : Opens Tryz.prog 60 (fun _ cs (f : FileP) => cs = rowF f) (fun f => f.dat.length ≤ reachBytes) := by
  intro H enc w base spare held n cs x hx
  obtain ⟨hl, hg⟩ := struct_at Tryz.underlying60 hx
  rw [cells_fileB] at hl
  match cs, hl with
  | [c0, c1], _ =>
    obtain ⟨m0, y0, h0, w0⟩ := hg 0 _ rfl
    obtain ⟨m1, y1, h1, w1⟩ := hg 1 _ rfl
    have h0 : DataW.trod enc Tryz.prog w base spare held m0 9 (([c0, c1].drop 0).take (Tryz.prog.cellsOf 9)) = some y0 := h0
    have h1 : DataW.trod enc Tryz.prog w base spare held m1 9 (([c0, c1].drop 1).take (Tryz.prog.cellsOf 9)) = some y1 := h1
    rw [cells_strB] at h0
    rw [cells_strB] at h1
    obtain ⟨a0, b0, g0⟩ := opens_str Tryz.underlying9 enc w base spare held m0 _ y0 h0
    obtain rfl : c0 = str a0 := by simpa using b0
    obtain ⟨a1, b1, g1⟩ := opens_str Tryz.underlying9 enc w base spare held m1 _ y1 h1
    obtain rfl : c1 = str a1 := by simpa using b1
    exact ⟨⟨a0, a1⟩, rfl, fun hw => g1 (w1 hw)⟩
theorem opens_files : Opens Tryz.prog 34 (fun w cs (l : List FileP) => ∃ v, cs = [v] ∧ Fls (fun _ => True) w v l) (fun l => l.length ≤ 4398046511000 ∧ ∀ f ∈ l, f.dat.length ≤ reachBytes) :=
  (opens_sl rowF Tryz.underlying34 cells_fileB (by decide) opens_file).imp (fun w cs y h => h) (fun y h => by
    have h1 := h.1
    rw [bytes_fileB] at h1
    have hr : reachBytes = 140737488351232 := rfl
    exact ⟨by omega, h.2⟩)
set_option maxRecDepth 100000 in
theorem opens_ready : Opens Tryz.prog 33 (fun w cs (r : RP) => ∃ ev x y z am1 n1 k1 am2 n2 k2 am3 n3 k3 am4 n4 k4, cs = (cellsR r.t r.v r.c r.kept ev r.si r.st x y z r.sd (.slice am1 n1 k1) (.slice am2 n2 k2) (.slice am3 n3 k3) (.slice am4 n4 k4)).toList ∧ Ents (fun _ => True) w ev r.es ∧ Config3 w x y z r.sc) (fun r => r.es.length ≤ 3518437208780 ∧ fitB r.sc) := by
  intro H enc w base spare held n cs x hx
  obtain ⟨hl, hg⟩ := struct_at Tryz.underlying33 hx
  rw [cells_readyB] at hl
  match cs, hl with
  | [c0, c1, c2, c3, c4, c5, c6, c7, c8, c9, c10, c11, c12, c13, c14], _ =>
    obtain ⟨m0, y0, h0, w0⟩ := hg 0 _ rfl
    obtain ⟨m1, y1, h1, w1⟩ := hg 1 _ rfl
    obtain ⟨m2, y2, h2, w2⟩ := hg 2 _ rfl
    obtain ⟨m3, y3, h3, w3⟩ := hg 3 _ rfl
    obtain ⟨m4, y4, h4, w4⟩ := hg 4 _ rfl
    obtain ⟨m5, y5, h5, w5⟩ := hg 5 _ rfl
    obtain ⟨m6, y6, h6, w6⟩ := hg 6 _ rfl
    obtain ⟨m7, y7, h7, w7⟩ := hg 7 _ rfl
    have h0 : DataW.trod enc Tryz.prog w base spare held m0 23 (([c0, c1, c2, c3, c4, c5, c6, c7, c8, c9, c10, c11, c12, c13, c14].drop 0).take (Tryz.prog.cellsOf 23)) = some y0 := h0
    have h1 : DataW.trod enc Tryz.prog w base spare held m1 4 (([c0, c1, c2, c3, c4, c5, c6, c7, c8, c9, c10, c11, c12, c13, c14].drop 3).take (Tryz.prog.cellsOf 4)) = some y1 := h1
    have h2 : DataW.trod enc Tryz.prog w base spare held m2 24 (([c0, c1, c2, c3, c4, c5, c6, c7, c8, c9, c10, c11, c12, c13, c14].drop 4).take (Tryz.prog.cellsOf 24)) = some y2 := h2
    have h3 : DataW.trod enc Tryz.prog w base spare held m3 29 (([c0, c1, c2, c3, c4, c5, c6, c7, c8, c9, c10, c11, c12, c13, c14].drop 5).take (Tryz.prog.cellsOf 29)) = some y3 := h3
    have h4 : DataW.trod enc Tryz.prog w base spare held m4 30 (([c0, c1, c2, c3, c4, c5, c6, c7, c8, c9, c10, c11, c12, c13, c14].drop 11).take (Tryz.prog.cellsOf 30)) = some y4 := h4
    have h5 : DataW.trod enc Tryz.prog w base spare held m5 24 (([c0, c1, c2, c3, c4, c5, c6, c7, c8, c9, c10, c11, c12, c13, c14].drop 12).take (Tryz.prog.cellsOf 24)) = some y5 := h5
    have h6 : DataW.trod enc Tryz.prog w base spare held m6 31 (([c0, c1, c2, c3, c4, c5, c6, c7, c8, c9, c10, c11, c12, c13, c14].drop 13).take (Tryz.prog.cellsOf 31)) = some y6 := h6
    have h7 : DataW.trod enc Tryz.prog w base spare held m7 25 (([c0, c1, c2, c3, c4, c5, c6, c7, c8, c9, c10, c11, c12, c13, c14].drop 14).take (Tryz.prog.cellsOf 25)) = some y7 := h7
    rw [cells_hardB] at h0
    rw [cells_boolB] at h1
    rw [cells_entsB] at h2
    rw [cells_snapB] at h3
    rw [cells_msgsB] at h4
    rw [cells_entsB] at h5
    rw [cells_readsB] at h6
    rw [cells_intsB] at h7
    obtain ⟨hd, hv0, _⟩ := opens_hard enc w base spare held m0 _ y0 h0
    have hv0 : [c0, c1, c2] = [.int .i64 hd.1, .int .i64 hd.2.1, .int .i64 hd.2.2] := hv0
    simp only [List.cons.injEq, and_true] at hv0
    obtain ⟨rfl, rfl, rfl⟩ := hv0
    obtain ⟨a1, b1, g1⟩ := opens_bool Tryz.underlying4 enc w base spare held m1 _ y1 h1
    obtain rfl : c3 = .bool a1 := by simpa using b1
    obtain ⟨es, ⟨ev, he2, hs2⟩, hf2⟩ := opens_entries enc w base spare held m2 _ y2 h2
    obtain rfl : c4 = ev := by simpa using he2
    obtain ⟨q, ⟨sx, sy, sz, hv3, hc3⟩, hf3⟩ := opens_snapB enc w base spare held m3 _ y3 h3
    have hv3 : [c5, c6, c7, c8, c9, c10] = [.int .i64 q.1, .int .i64 q.2.1, sx, sy, sz, str q.2.2.2] := hv3
    simp only [List.cons.injEq, and_true] at hv3
    obtain ⟨rfl, rfl, rfl, rfl, rfl, rfl⟩ := hv3
    obtain ⟨q4, b4, _⟩ := opens_any Tryz.underlying30 enc w base spare held m4 _ y4 h4
    obtain rfl : c11 = .slice q4.1 q4.2.1 q4.2.2 := by simpa using b4
    obtain ⟨q5, b5, _⟩ := opens_any Tryz.underlying24 enc w base spare held m5 _ y5 h5
    obtain rfl : c12 = .slice q5.1 q5.2.1 q5.2.2 := by simpa using b5
    obtain ⟨q6, b6, _⟩ := opens_any Tryz.underlying31 enc w base spare held m6 _ y6 h6
    obtain rfl : c13 = .slice q6.1 q6.2.1 q6.2.2 := by simpa using b6
    obtain ⟨q7, b7, _⟩ := opens_any Tryz.underlying25 enc w base spare held m7 _ y7 h7
    obtain rfl : c14 = .slice q7.1 q7.2.1 q7.2.2 := by simpa using b7
    exact ⟨⟨hd.1, hd.2.1, hd.2.2, a1, es, q.1, q.2.1, q.2.2.1, q.2.2.2⟩, ⟨_, _, _, _, _, _, _, _, _, _, _, _, _, _, _, _, rfl, hs2, hc3⟩, fun hw => ⟨hf2 (w2 hw), hf3 (w3 hw)⟩⟩

set_option maxRecDepth 100000 in
theorem walExact_lifted (os : Os) (started : os.Started) (H : Type) (enc : TypeId × Value → H) :
    ReturnsInHanded {} Tryz.checked os 3 .any (Rows.walExactSpec.pre6 enc Tryz.prog Tryz.f3 Rows.walExactRow.domain false) (Rows.walExactSpec.post enc Tryz.prog Tryz.f3 false true false false) := by
  refine returnsInHanded_of_change_sized (C := Tryz.checked) law_own started (by kernel_rfl) Tryz.func3
    (ChangeSpec.witness6 (enc := enc) (C := Tryz.checked) false ⟨#[], #[.agg #[.int .i64 0, .int .i64 0, .int .i64 0, .bool false, .slice none 0 0, .int .i64 0, .int .i64 0, .slice none 0 0, .slice none 0 0, .slice none 0 0, .string .empty, .slice none 0 0, .slice none 0 0, .slice none 0 0, .slice none 0 0], .slice none 0 0, .agg #[.slice none 0 0, .slice none 0 0, .slice none 0 0]], []⟩ 8 (by kernel_rfl) (by kernel_rfl) (by kernel_rfl) (by kernel_rfl)) ?_
  intro W base args ds gs before hval0 hW _ hsz0 _
  have hsz : (DataW.weightsEach Tryz.prog (Tryz.f3.params.toList ++ Rows.walExactSpec.plain.varTypes Tryz.prog) (ds ++ gs)).all (· ≤ reachBytes) = true := hsz0
  have hval : ∀ (j : Nat) t v, Tryz.f3.params[j]? = some t → args[j]? = some v → Value.okWide Tryz.prog W .any base t v := hval0
  have hW' : DataW.Whole enc Tryz.prog Tryz.f3.params.toList Rows.walExactSpec.vars false W args.toList ds gs before := hW
  obtain ⟨p, q, hA0, hV, rfl, hfz, hnd⟩ := hW
  have hA : DataW.TrodAll enc Tryz.prog W 0 (fun _ => true) true Tryz.f3.params.toList args.toList ds p := hA0
  rw [Tryz.params3] at hA hval hsz
  obtain ⟨v0, vs0, d0, ds0, p0, q0, hargs, rfl, rfl, h0, r0⟩ := trodAll_cons hA
  obtain ⟨v1, vs1, d1, ds1, p1, q1, rfl, rfl, rfl, h1, r1⟩ := trodAll_cons r0
  obtain ⟨v2, vs2, d2, ds2, p2, q2, rfl, rfl, rfl, h2, r2⟩ := trodAll_cons r1
  obtain ⟨rfl, rfl, rfl⟩ := trodAll_nil r2
  obtain rfl : args = #[v0, v1, v2] := by cases args; simp_all
  obtain ⟨rfl, rfl⟩ := trodVars_none hV
  clear hA0 hval0 hsz0
  obtain ⟨r, ⟨rev, rx, ry, rz, am1, en1, ek1, am2, en2, ek2, am3, en3, ek3, am4, en4, ek4, hcs0, hE, hs⟩, hfr⟩ := opens_ready.arg h0
  obtain ⟨cs0, rfl, _⟩ := okWide_struct Tryz.underlying33 (hval 0 33 v0 rfl rfl)
  have e0 : cs0 = cellsR r.t r.v r.c r.kept rev r.si r.st rx ry rz r.sd (.slice am1 en1 ek1) (.slice am2 en2 ek2) (.slice am3 en3 ek3) (.slice am4 en4 ek4) := by cases cs0; simpa [Value.cells] using hcs0
  subst e0
  have hf0 := hfr (weights_at hsz (j := 0) (t := 33) rfl rfl)
  obtain ⟨l, ⟨lv, hcs1, hl1⟩, hf1⟩ := opens_files.arg h1
  obtain ⟨a1, n1, k1, rfl⟩ := okWide_slice Tryz.underlying34 (hval 1 34 v1 rfl rfl)
  obtain rfl : Value.slice a1 n1 k1 = lv := by simpa [Value.cells] using hcs1
  have hg1 := hf1 (weights_at hsz (j := 1) (t := 34) rfl rfl)
  obtain ⟨c, ⟨a, b, d, hcs2, hc⟩, hf2⟩ := opens_confB.arg h2
  obtain ⟨cs2, rfl, _⟩ := okWide_struct Tryz.underlying27 (hval 2 27 v2 rfl rfl)
  have e2 : cs2 = #[a, b, d] := by cases cs2; simpa [Value.cells] using hcs2
  subst e2
  have hg2 := hf2 (weights_at hsz (j := 2) (t := 27) rfl rfl)
  have hr : reachBytes = 140737488351232 := rfl
  refine (law_walExact r rev rx ry rz am1 am2 am3 am4 en1 en2 en3 en4 ek1 ek2 ek3 ek4 _ l a b d c _ W hE hs hl1 hc ⟨hf0.1, hf0.2⟩ hg2 hg1.1 (fun f hf => by have := hg1.2 f hf; omega)).mono fun e W' ⟨he, hb⟩ => ?_
  exact ⟨_, he, law_post (by kernel_rfl) (by kernel_rfl) rfl rfl rfl rfl hW' hb⟩

theorem walExact_holds : Rows.WalExactSaid :=
  OpenClaim.holds_of_wide 3 Tryz.f3 rfl rfl rfl rfl rfl rfl rfl ⟨rfl, rfl, rfl, rfl, rfl⟩ rfl rfl rfl rfl rfl (by kernel_rfl) Tryz.func3 (by kernel_rfl)
    (of_decide_eq_true (by kernel_rfl)) (by unfold Func.isWrapper; first | (rw [if_pos (by decide +kernel)]; kernel_rfl) | (rw [if_neg (by decide +kernel)]; exact ⟨rfl, rfl⟩))
    (fun os started H enc _ => walExact_lifted os started H enc)

end Go.Proofs.YtjlhlmnoomiblaaGreat
